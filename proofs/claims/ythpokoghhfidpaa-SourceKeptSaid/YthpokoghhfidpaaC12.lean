/-
  Walks and laws of this seat; the base is the text Base.
-/
import Derived.Test.YthpokoghhfidpaaBase
import Derived.Test.YthpokoghhfidpaaRows
import Derived.Test.YthpokoghhfidpaaT1
import Derived.Test.YthpokoghhfidpaaC11
namespace Go.Proofs.Ythpokoghhfidpaa
open Go.RowKit Go.Sl

/-- The block is full of marks. -/
def Marked (j : Nat) (x : Ent) : Prop := ∀ g cur, x = Ent.blk g (.cells cur 21 (0, 0)) → ∀ k, k < cur.size → cur[k]? = some (.int .i32 (-1000 - (j : Int)))

theorem set_twice {α : Type} (l : List α) (i : Nat) (x y : α) : (l.set i x).set i y = l.set i y := by simp

theorem cutv_full (g n c : Nat) : cutv (.slice (some ⟨g, 0, none⟩) n c) 1 0 c = .slice (some ⟨g, 0, none⟩) c c := by
  simp only [cutv, Nat.zero_mul, Nat.sub_zero]
  split
  · rfl
  · simp [Addr.add]


theorem Apart_ok {f : Fz} {w0 w : World} {Ls L : List Ent} {b : Nat} {lsv wsv : Value} {held : Int} {ls ws : List Value} (hn : ls.length = ws.length) (hn2 : ls.length ≤ 4000) (hRl : Rd f [] lsv 1 (one ls)) (hRw : Rd f [] wsv 1 (one ws)) (hlen : Ls.length = ls.length)
    (hsame : ∀ (i : Nat) (v u : Value), ls[i]? = some v → ws[i]? = some u → ∃ xs : List Int, xs.length ≤ 35184372087000 ∧ Ls[i]? = some (Ent.row v 21 1 (rl xs)) ∧ Rd f [] u 1 (rl xs))
    (hC : Cw w0 f (.blk b (.cells #[lsv, wsv, .int .i64 held, .bool false] bkT) :: (Ls ++ L)) w) :
    Calls Try.prog 15 [.pointer (some ⟨b, 0, none⟩), .func (.func 16) #[] #[]].toArray w fun e w' => e = .returned (.bool true) ∧ Cw w0 f L w' := by
  refine enter Try.func15 rfl Try.ntmps15 (by simp) hC fun a hs => ?_
  have hsm : ∀ (i : Nat) (v u : Value), ls[i]? = some v → ws[i]? = some u → ∃ xs : List Int, xs.length ≤ 35184372087000 ∧ Ent.row v 21 1 (rl xs) ∈ Ls ++ L ∧ Rd f [] u 1 (rl xs) := fun i v u h1 h2 => by
    obtain ⟨xs, e1, e2, e3⟩ := hsame i v u h1 h2
    exact ⟨xs, e1, List.mem_append_left _ (List.mem_of_getElem? e2), e3⟩
  refine W_seq fun K1 hK1 => ?_
  refine W_region ?_
  refine sy hs (y_assign rfl) ?_; clear hs; (try clear a w); intro a w hs
  refine RL_nil ?_
  refine hK1 _ _ ?_; clear hK1
  refine W_seq fun K2 hK2 => ?_
  refine W_seq fun K3 hK3 => ?_
  refine W_region ?_
  refine sy hs (y_move rfl) ?_; clear hs; (try clear a w); intro a w hs
  refine sy hs (y_callC rfl has23 rfl (fun w hw => Stays_ok hn hn2 hRl hRw hsm hw)) ?_; clear hs; (try clear a w); intro a w hs
  refine sy hs (y_not rfl) ?_; clear hs; (try clear a w); intro a w hs
  refine RL_nil ?_
  refine hK3 _ _ ?_; clear hK3
  refine W_condF hs rfl ?_
  refine W_skip ?_
  refine hK2 _ _ ?_; clear hK2
  refine W_seq fun K4 hK4 => ?_
  refine W_seq fun K5 hK5 => ?_
  refine W_region ?_
  refine sy hs (y_assign rfl) ?_; clear hs; (try clear a w); intro a w hs
  refine RL_nil ?_
  refine hK5 _ _ ?_; clear hK5
  refine W_block fun Qe6 hB6 hO6 => ?_
  have hrow : ∀ (i : Nat) (v : Value), ls[i]? = some v → ∃ rows : List (List Value), Ls[i]? = some (Ent.row v 21 1 rows) := fun i v h => by
    obtain ⟨u, hu⟩ : ∃ u, ws[i]? = some u := ⟨_, List.getElem?_eq_getElem (by have := (List.getElem?_eq_some_iff.1 h).1; omega)⟩
    obtain ⟨xs, _, e2, _⟩ := hsame i v u h hu
    exact ⟨_, e2⟩
  obtain ⟨Ls', hl', hsl', hC'⟩ := hs.cw.openAll hlen hrow
  replace hs : St 101 w0 f _ _ _ _ := ⟨hs.ev, hC'⟩
  refine W_loop (fun (i : Nat) a w => i ≤ ls.length ∧ ∃ Ls : List Ent, Ls.length = ls.length ∧ (∀ (j : Nat) (v : Value), ls[j]? = some v → ∃ x, Ls[j]? = some x ∧ Slot 21 v x ∧ (j < i → Marked j x)) ∧
    St 101 w0 f (.blk b (.cells #[lsv, wsv, .int .i64 held, .bool false] bkT) :: (Ls ++ L)) [(0, .pointer (some ⟨b, 0, none⟩)), (1, .func (.func 16) #[] #[]), (5, .int .i64 i)] a w) (fun i => ls.length - i) 0
    ⟨by omega, Ls', hl', fun j v h => (by obtain ⟨x, e1, e2⟩ := hsl' j v h; exact ⟨x, e1, e2, fun h => absurd h (by omega)⟩), hs.sub ⟨rfl, rfl, rfl, trivial⟩⟩ ?_
  clear hs hl' hsl' hC' hrow hsm hsame hlen hC; clear Ls' Ls; rintro i a w ⟨hi, Ls, hl, hLs, hs⟩ K hK
  refine W_seq fun K7 hK7 => ?_
  refine W_seq fun K8 hK8 => ?_
  refine W_region ?_
  refine sy hs (y_move rfl) ?_; clear hs; (try clear a w); intro a w hs
  refine sy hs (y_move rfl) ?_; clear hs; (try clear a w); intro a w hs
  first | (refine sy hs (y_nilCheck rfl) ?_; clear hs; (try clear a w); intro a w hs) | (refine sy hs (y_nilE rfl) ?_; clear hs; (try clear a w); intro a w hs)
  first | (refine sy hs (y_fieldAddr rfl (FO.of (off := 0) Try.underlying36 rfl rfl ti34 (by decide))) ?_; clear hs; (try clear a w); intro a w hs) | (refine sy hs (y_faE rfl (FO.of (off := 0) Try.underlying36 rfl rfl ti34 (by decide))) ?_; clear hs; (try clear a w); intro a w hs)
  first | (refine sy hs (y_ld rfl Try.underlying34 rfl) ?_; clear hs; (try clear a w); intro a w hs) | (refine sy hs (y_ldE rfl Try.underlying34 rfl) ?_; clear hs; (try clear a w); intro a w hs)
  first | (refine sy hs (y_lenM rfl Try.underlying34) ?_; clear hs; (try clear a w); intro a w hs) | (refine sy hs (y_lenR rfl Try.underlying34) ?_; clear hs; (try clear a w); intro a w hs) | (refine sy hs (y_len rfl Try.underlying34) ?_; clear hs; (try clear a w); intro a w hs)
  refine sy hs (y_lss rfl rfl) ?_; clear hs; (try clear a w); intro a w hs
  refine RL_nil ?_
  refine hK8 _ _ ?_; clear hK8
  first | refine W_condP hs rfl (fun hlt => ?_) (fun hlt => ?_) | refine W_cond hs rfl (fun hlt => ?_) (fun hlt => ?_)
  · obtain ⟨v, hv⟩ : ∃ v, ls[i]? = some v := ⟨_, List.getElem?_eq_getElem (by omega)⟩
    obtain ⟨x, hx, hsl, hmk⟩ := hLs i v hv
    by_cases hnil : v = .slice none 0 0
    · subst hnil
      obtain ⟨rfl⟩ : x = .row (.slice none 0 0) 21 1 [] := by
        rcases hsl with ⟨_, h⟩ | ⟨g, n, cur, h, _⟩
        · exact h
        · cases h
      refine W_skip ?_
      refine hK7 _ _ ?_; clear hK7
      refine W_seq fun K9 hK9 => ?_
      refine W_block fun Qe10 hB10 hO10 => ?_
      refine W_seq fun K11 hK11 => ?_
      refine W_draw hs mixed (by kernel_rfl) ?_; intro a he
      refine qy he (y_move rfl) ?_; clear he; (try clear a); intro a he
      first | (refine qy he (y_nilCheck rfl) ?_; clear he; (try clear a); intro a he) | (refine qy he (y_nilE rfl) ?_; clear he; (try clear a); intro a he)
      first | (refine qy he (y_fieldAddr rfl (FO.of (off := 0) Try.underlying36 rfl rfl ti34 (by decide))) ?_; clear he; (try clear a); intro a he) | (refine qy he (y_faE rfl (FO.of (off := 0) Try.underlying36 rfl rfl ti34 (by decide))) ?_; clear he; (try clear a); intro a he)
      first | (refine qy he (y_ld rfl Try.underlying34 rfl) ?_; clear he; (try clear a); intro a he) | (refine qy he (y_ldE rfl Try.underlying34 rfl) ?_; clear he; (try clear a); intro a he)
      refine qy he (y_move rfl) ?_; clear he; (try clear a); intro a he
      refine qy he (y_ix (m := i) rfl rfl Try.underlying34 ti24 rfl hRl (by simp; omega)) ?_; clear he; (try clear a); intro a he
      refine qy he (y_ldE rfl Try.underlying24 rfl hRl.up (map_get hv) rfl) ?_; clear he; (try clear a); intro a he
      refine qy he (y_move rfl) ?_; clear he; (try clear a); intro a he
      first | (refine qy he (y_nilCheck rfl) ?_; clear he; (try clear a); intro a he) | (refine qy he (y_nilE rfl) ?_; clear he; (try clear a); intro a he)
      first | (refine qy he (y_fieldAddr rfl (FO.of (off := 0) Try.underlying36 rfl rfl ti34 (by decide))) ?_; clear he; (try clear a); intro a he) | (refine qy he (y_faE rfl (FO.of (off := 0) Try.underlying36 rfl rfl ti34 (by decide))) ?_; clear he; (try clear a); intro a he)
      first | (refine qy he (y_ld rfl Try.underlying34 rfl) ?_; clear he; (try clear a); intro a he) | (refine qy he (y_ldE rfl Try.underlying34 rfl) ?_; clear he; (try clear a); intro a he)
      refine qy he (y_move rfl) ?_; clear he; (try clear a); intro a he
      refine qy he (y_ix (m := i) rfl rfl Try.underlying34 ti24 rfl hRl (by simp; omega)) ?_; clear he; (try clear a); intro a he
      refine qy he (y_ldE rfl Try.underlying24 rfl hRl.up (map_get hv) rfl) ?_; clear he; (try clear a); intro a he
      refine qy he (y_cap rfl Try.underlying24) ?_; clear he; (try clear a); intro a he
      refine qy he (y_sliceA (lo := 0) (hi := 0) rfl Try.underlying24 ti21 (.inl ⟨rfl, rfl⟩) (.inr ⟨_, rfl, rfl⟩) (by decide) (by decide)) ?_; clear he; (try clear a); intro a he
      refine qy he (y_assign rfl) ?_; clear he; (try clear a); intro a he
      refine QL_nil he ?_; clear he hs; intro a w hs
      refine hK11 _ _ ?_; clear hK11
      refine W_seq fun K12 hK12 => ?_
      refine W_region ?_
      refine sy hs (y_assign rfl) ?_; clear hs; (try clear a w); intro a w hs
      refine RL_nil ?_
      refine hK12 _ _ ?_; clear hK12
      refine W_block fun Qe13 hB13 hO13 => ?_
      refine W_loop (fun (_ : Nat) a w => St 101 w0 f (.blk b (.cells #[lsv, wsv, .int .i64 held, .bool false] bkT) :: (Ls ++ L)) [(0, .pointer (some ⟨b, 0, none⟩)), (1, .func (.func 16) #[] #[]), (5, .int .i64 i), (6, .slice none 0 0), (7, .int .i64 0)] a w) (fun _ => 0) 0
        (hs.sub ⟨rfl, rfl, rfl, rfl, rfl, trivial⟩) ?_
      clear hs; rintro k a w hs K' hK'
      refine W_seq fun K14 hK14 => ?_
      refine W_seq fun K15 hK15 => ?_
      refine W_region ?_
      refine sy hs (y_move rfl) ?_; clear hs; (try clear a w); intro a w hs
      refine sy hs (y_move rfl) ?_; clear hs; (try clear a w); intro a w hs
      refine sy hs (y_len rfl Try.underlying24) ?_; clear hs; (try clear a w); intro a w hs
      refine sy hs (y_lss rfl rfl) ?_; clear hs; (try clear a w); intro a w hs
      refine RL_nil ?_
      refine hK15 _ _ ?_; clear hK15
      refine W_condF hs rfl ?_
      refine W_exit ?_
      refine hB13 _ _ ?_
      refine hK9 _ _ ?_; clear hK9
      refine W_region ?_
      refine sy hs (y_move rfl) ?_; clear hs; (try clear a w); intro a w hs
      refine sy hs (y_add rfl rfl (wr_i64 (by omega))) ?_; clear hs; (try clear a w); intro a w hs
      refine sy hs (y_assign rfl) ?_; clear hs; (try clear a w); intro a w hs
      refine RL_nil ?_
      refine hK (i + 1) _ _ (by omega) ⟨by omega, Ls, hl, fun j v h => ?_, hs.sub ⟨rfl, rfl, rfl, trivial⟩⟩
      obtain ⟨x', e1, e2, e3⟩ := hLs j v h
      refine ⟨x', e1, e2, fun hj => ?_⟩
      by_cases hji : j = i
      · subst hji
        rw [hx] at e1; cases e1
        intro g cur h; cases h
      · exact e3 (by omega)
    · obtain ⟨g, n, cur, rfl, hnc, hcm, rfl⟩ : ∃ g n cur, v = .slice (some ⟨g, 0, none⟩) n cur.size ∧ n ≤ cur.size ∧ cur.size ≤ maxLen ∧ x = .blk g (.cells cur 21 (0, 0)) := by
        rcases hsl with ⟨h, _⟩ | h
        · exact absurd h hnil
        · exact h
      obtain ⟨c, hc⟩ : ∃ c, cur.size = c := ⟨_, rfl⟩
      rw [hc] at hv hnc hcm
      simp only [maxLen] at hcm
      refine W_skip ?_
      refine hK7 _ _ ?_; clear hK7
      refine W_seq fun K16 hK16 => ?_
      refine W_block fun Qe17 hB17 hO17 => ?_
      refine W_seq fun K18 hK18 => ?_
      refine W_draw hs mixed (by kernel_rfl) ?_; intro a he
      refine qy he (y_move rfl) ?_; clear he; (try clear a); intro a he
      first | (refine qy he (y_nilCheck rfl) ?_; clear he; (try clear a); intro a he) | (refine qy he (y_nilE rfl) ?_; clear he; (try clear a); intro a he)
      first | (refine qy he (y_fieldAddr rfl (FO.of (off := 0) Try.underlying36 rfl rfl ti34 (by decide))) ?_; clear he; (try clear a); intro a he) | (refine qy he (y_faE rfl (FO.of (off := 0) Try.underlying36 rfl rfl ti34 (by decide))) ?_; clear he; (try clear a); intro a he)
      first | (refine qy he (y_ld rfl Try.underlying34 rfl) ?_; clear he; (try clear a); intro a he) | (refine qy he (y_ldE rfl Try.underlying34 rfl) ?_; clear he; (try clear a); intro a he)
      refine qy he (y_move rfl) ?_; clear he; (try clear a); intro a he
      refine qy he (y_ix (m := i) rfl rfl Try.underlying34 ti24 rfl hRl (by simp; omega)) ?_; clear he; (try clear a); intro a he
      refine qy he (y_ldE rfl Try.underlying24 rfl hRl.up (map_get hv) rfl) ?_; clear he; (try clear a); intro a he
      refine qy he (y_move rfl) ?_; clear he; (try clear a); intro a he
      first | (refine qy he (y_nilCheck rfl) ?_; clear he; (try clear a); intro a he) | (refine qy he (y_nilE rfl) ?_; clear he; (try clear a); intro a he)
      first | (refine qy he (y_fieldAddr rfl (FO.of (off := 0) Try.underlying36 rfl rfl ti34 (by decide))) ?_; clear he; (try clear a); intro a he) | (refine qy he (y_faE rfl (FO.of (off := 0) Try.underlying36 rfl rfl ti34 (by decide))) ?_; clear he; (try clear a); intro a he)
      first | (refine qy he (y_ld rfl Try.underlying34 rfl) ?_; clear he; (try clear a); intro a he) | (refine qy he (y_ldE rfl Try.underlying34 rfl) ?_; clear he; (try clear a); intro a he)
      refine qy he (y_move rfl) ?_; clear he; (try clear a); intro a he
      refine qy he (y_ix (m := i) rfl rfl Try.underlying34 ti24 rfl hRl (by simp; omega)) ?_; clear he; (try clear a); intro a he
      refine qy he (y_ldE rfl Try.underlying24 rfl hRl.up (map_get hv) rfl) ?_; clear he; (try clear a); intro a he
      refine qy he (y_cap rfl Try.underlying24) ?_; clear he; (try clear a); intro a he
      refine qy he (y_sliceA (lo := 0) (hi := c) rfl Try.underlying24 ti21 (.inl ⟨rfl, rfl⟩) (.inr ⟨_, rfl, rfl⟩) (by omega) (by omega)) ?_; clear he; (try clear a); intro a he
      refine qy he (y_assign rfl) ?_; clear he; (try clear a); intro a he
      refine QL_nil he ?_; clear he hs; intro a w hs
      refine hK18 _ _ ?_; clear hK18
      refine W_seq fun K19 hK19 => ?_
      refine W_region ?_
      refine sy hs (y_assign rfl) ?_; clear hs; (try clear a w); intro a w hs
      refine RL_nil ?_
      refine hK19 _ _ ?_; clear hK19
      refine W_block fun Qe20 hB20 hO20 => ?_
      rw [cutv_full] at hs
      refine W_loop (fun (k : Nat) a w => k ≤ c ∧ ∃ cur : Array Value, cur.size = c ∧ (∀ k', k' < k → cur[k']? = some (.int .i32 (-1000 - (i : Int)))) ∧
        St 101 w0 f (.blk b (.cells #[lsv, wsv, .int .i64 held, .bool false] bkT) :: (Ls.set i (.blk g (.cells cur 21 (0, 0))) ++ L)) [(0, .pointer (some ⟨b, 0, none⟩)), (1, .func (.func 16) #[] #[]), (5, .int .i64 i), (6, .slice (some ⟨g, 0, none⟩) c c), (7, .int .i64 k)] a w) (fun k => c - k) 0
        ⟨by omega, cur, hc, fun k' h => absurd h (by omega), by
          have e : Ls.set i (.blk g (.cells cur 21 (0, 0))) = Ls := by
            apply List.ext_getElem?
            intro j
            rw [List.getElem?_set]
            split
            · rename_i hij; subst hij
              rw [if_pos (by omega), hx]
            · rfl
          rw [e]
          exact hs.sub ⟨rfl, rfl, rfl, rfl, rfl, trivial⟩⟩ ?_
      clear hs; rintro k a w ⟨hk, cur', hc', hmk', hs⟩ K' hK'
      refine W_seq fun K21 hK21 => ?_
      refine W_seq fun K22 hK22 => ?_
      refine W_region ?_
      refine sy hs (y_move rfl) ?_; clear hs; (try clear a w); intro a w hs
      refine sy hs (y_move rfl) ?_; clear hs; (try clear a w); intro a w hs
      refine sy hs (y_len rfl Try.underlying24) ?_; clear hs; (try clear a w); intro a w hs
      refine sy hs (y_lss rfl rfl) ?_; clear hs; (try clear a w); intro a w hs
      refine RL_nil ?_
      refine hK22 _ _ ?_; clear hK22
      first | refine W_condP hs rfl (fun hkl => ?_) (fun hkl => ?_) | refine W_cond hs rfl (fun hkl => ?_) (fun hkl => ?_)
      · refine W_skip ?_
        refine hK21 _ _ ?_; clear hK21
        refine W_seq fun K23 hK23 => ?_
        refine W_block fun Qe24 hB24 hO24 => ?_
        refine W_region ?_
        refine sy hs (y_move rfl) ?_; clear hs; (try clear a w); intro a w hs
        refine sy hs (y_move rfl) ?_; clear hs; (try clear a w); intro a w hs
        refine sy hs (y_move rfl) ?_; clear hs; (try clear a w); intro a w hs
        refine sy hs (y_move rfl) ?_; clear hs; (try clear a w); intro a w hs
        refine sy hs (y_move rfl) ?_; clear hs; (try clear a w); intro a w hs
        refine sy hs (y_call rfl has16 rfl (Runes_ok (by omega))) ?_; clear hs; (try clear a w); intro a w hs
        refine sy hs (y_ixA (j := k) rfl rfl Try.underlying24 ti21 rfl (by omega)) ?_; clear hs; (try clear a w); intro a w hs
        refine RL_storeBlk (i := i + 1) (cs := cur') hs (by rw [List.getElem?_cons_succ, List.getElem?_append_left (by simp; omega)]; exact List.getElem?_set_self (by omega)) rfl rfl ti21 rfl (by omega) rfl (.free rfl) ?_; clear hs; (try clear a w); intro a w hs; rw [List.set_cons_succ, List.set_append_left _ _ (by simp; omega), set_twice] at hs
        refine RL_nil ?_
        refine hK23 _ _ ?_; clear hK23
        refine W_region ?_
        refine sy hs (y_move rfl) ?_; clear hs; (try clear a w); intro a w hs
        refine sy hs (y_add rfl rfl (wr_i64 (by omega))) ?_; clear hs; (try clear a w); intro a w hs
        refine sy hs (y_assign rfl) ?_; clear hs; (try clear a w); intro a w hs
        refine RL_nil ?_
        refine hK' (k + 1) _ _ (by omega) ⟨by omega, cur'.setIfInBounds (0 + k * 1) (.int .i32 (-1000 - (i : Int))), by simp [hc'], fun k' h => ?_, hs.sub ⟨rfl, rfl, rfl, rfl, rfl, trivial⟩⟩
        rw [Nat.zero_add, Nat.mul_one, Array.getElem?_setIfInBounds]
        by_cases e : k' = k
        · subst e; simp; omega
        · rw [if_neg (by omega)]; exact hmk' k' (by omega)
      · refine W_exit ?_
        refine hB20 _ _ ?_
        refine hK16 _ _ ?_; clear hK16
        refine W_region ?_
        refine sy hs (y_move rfl) ?_; clear hs; (try clear a w); intro a w hs
        refine sy hs (y_add rfl rfl (wr_i64 (by omega))) ?_; clear hs; (try clear a w); intro a w hs
        refine sy hs (y_assign rfl) ?_; clear hs; (try clear a w); intro a w hs
        refine RL_nil ?_
        refine hK (i + 1) _ _ (by omega) ⟨by omega, _, by rw [List.length_set]; exact hl, fun j v h => ?_, hs.sub ⟨rfl, rfl, rfl, trivial⟩⟩
        by_cases hji : j = i
        · subst hji
          rw [hv] at h; cases h
          refine ⟨_, by rw [List.getElem?_set]; simp; omega, .inr ⟨g, n, cur', by rw [hc'], by omega, by rw [hc']; simp only [maxLen]; omega, rfl⟩, fun _ g' cur2 h k' hk' => ?_⟩
          cases h
          exact hmk' k' (by omega)
        · obtain ⟨x', e1, e2, e3⟩ := hLs j v h
          exact ⟨x', by rw [List.getElem?_set_ne (by omega)]; exact e1, e2, fun hj => e3 (by omega)⟩
  · refine W_exit ?_
    refine hB6 _ _ ?_
    refine hK4 _ _ ?_; clear hK4
    refine W_seq fun K25 hK25 => ?_
    refine W_seq fun K26 hK26 => ?_
    refine W_region ?_
    refine sy hs (y_assign rfl) ?_; clear hs; (try clear a w); intro a w hs
    refine RL_nil ?_
    refine hK26 _ _ ?_; clear hK26
    refine W_block fun Qe27 hB27 hO27 => ?_
    have hLs' : ∀ (j : Nat) (v : Value), ls[j]? = some v → ∃ x, Ls[j]? = some x ∧ Slot 21 v x ∧ (j < ls.length → Marked j x) := fun j v h => by
      obtain ⟨x, e1, e2, e3⟩ := hLs j v h
      exact ⟨x, e1, e2, fun hj => e3 (by omega)⟩
    clear hLs hK
    refine W_loop (fun (i : Nat) a w => i ≤ ls.length ∧ St 101 w0 f (.blk b (.cells #[lsv, wsv, .int .i64 held, .bool false] bkT) :: (Ls ++ L)) [(0, .pointer (some ⟨b, 0, none⟩)), (1, .func (.func 16) #[] #[]), (8, .int .i64 i)] a w) (fun i => ls.length - i) 0
      ⟨by omega, hs.sub ⟨rfl, rfl, rfl, trivial⟩⟩ ?_
    clear hs; rintro i a w ⟨hi2, hs⟩ K hK
    refine W_seq fun K28 hK28 => ?_
    refine W_seq fun K29 hK29 => ?_
    refine W_region ?_
    refine sy hs (y_move rfl) ?_; clear hs; (try clear a w); intro a w hs
    refine sy hs (y_move rfl) ?_; clear hs; (try clear a w); intro a w hs
    first | (refine sy hs (y_nilCheck rfl) ?_; clear hs; (try clear a w); intro a w hs) | (refine sy hs (y_nilE rfl) ?_; clear hs; (try clear a w); intro a w hs)
    first | (refine sy hs (y_fieldAddr rfl (FO.of (off := 0) Try.underlying36 rfl rfl ti34 (by decide))) ?_; clear hs; (try clear a w); intro a w hs) | (refine sy hs (y_faE rfl (FO.of (off := 0) Try.underlying36 rfl rfl ti34 (by decide))) ?_; clear hs; (try clear a w); intro a w hs)
    first | (refine sy hs (y_ld rfl Try.underlying34 rfl) ?_; clear hs; (try clear a w); intro a w hs) | (refine sy hs (y_ldE rfl Try.underlying34 rfl) ?_; clear hs; (try clear a w); intro a w hs)
    first | (refine sy hs (y_lenM rfl Try.underlying34) ?_; clear hs; (try clear a w); intro a w hs) | (refine sy hs (y_lenR rfl Try.underlying34) ?_; clear hs; (try clear a w); intro a w hs) | (refine sy hs (y_len rfl Try.underlying34) ?_; clear hs; (try clear a w); intro a w hs)
    refine sy hs (y_lss rfl rfl) ?_; clear hs; (try clear a w); intro a w hs
    refine RL_nil ?_
    refine hK29 _ _ ?_; clear hK29
    first | refine W_condP hs rfl (fun hlt2 => ?_) (fun hlt2 => ?_) | refine W_cond hs rfl (fun hlt2 => ?_) (fun hlt2 => ?_)
    · obtain ⟨v, hv⟩ : ∃ v, ls[i]? = some v := ⟨_, List.getElem?_eq_getElem (by omega)⟩
      obtain ⟨x, hx, hsl, hmk⟩ := hLs' i v hv
      by_cases hnil : v = .slice none 0 0
      · subst hnil
        refine W_skip ?_
        refine hK28 _ _ ?_; clear hK28
        refine W_seq fun K30 hK30 => ?_
        refine W_block fun Qe31 hB31 hO31 => ?_
        refine W_seq fun K32 hK32 => ?_
        refine W_draw hs mixed (by kernel_rfl) ?_; intro a he
        refine qy he (y_move rfl) ?_; clear he; (try clear a); intro a he
        first | (refine qy he (y_nilCheck rfl) ?_; clear he; (try clear a); intro a he) | (refine qy he (y_nilE rfl) ?_; clear he; (try clear a); intro a he)
        first | (refine qy he (y_fieldAddr rfl (FO.of (off := 0) Try.underlying36 rfl rfl ti34 (by decide))) ?_; clear he; (try clear a); intro a he) | (refine qy he (y_faE rfl (FO.of (off := 0) Try.underlying36 rfl rfl ti34 (by decide))) ?_; clear he; (try clear a); intro a he)
        first | (refine qy he (y_ld rfl Try.underlying34 rfl) ?_; clear he; (try clear a); intro a he) | (refine qy he (y_ldE rfl Try.underlying34 rfl) ?_; clear he; (try clear a); intro a he)
        refine qy he (y_move rfl) ?_; clear he; (try clear a); intro a he
        refine qy he (y_ix (m := i) rfl rfl Try.underlying34 ti24 rfl hRl (by simp; omega)) ?_; clear he; (try clear a); intro a he
        refine qy he (y_ldE rfl Try.underlying24 rfl hRl.up (map_get hv) rfl) ?_; clear he; (try clear a); intro a he
        refine qy he (y_move rfl) ?_; clear he; (try clear a); intro a he
        first | (refine qy he (y_nilCheck rfl) ?_; clear he; (try clear a); intro a he) | (refine qy he (y_nilE rfl) ?_; clear he; (try clear a); intro a he)
        first | (refine qy he (y_fieldAddr rfl (FO.of (off := 0) Try.underlying36 rfl rfl ti34 (by decide))) ?_; clear he; (try clear a); intro a he) | (refine qy he (y_faE rfl (FO.of (off := 0) Try.underlying36 rfl rfl ti34 (by decide))) ?_; clear he; (try clear a); intro a he)
        first | (refine qy he (y_ld rfl Try.underlying34 rfl) ?_; clear he; (try clear a); intro a he) | (refine qy he (y_ldE rfl Try.underlying34 rfl) ?_; clear he; (try clear a); intro a he)
        refine qy he (y_move rfl) ?_; clear he; (try clear a); intro a he
        refine qy he (y_ix (m := i) rfl rfl Try.underlying34 ti24 rfl hRl (by simp; omega)) ?_; clear he; (try clear a); intro a he
        refine qy he (y_ldE rfl Try.underlying24 rfl hRl.up (map_get hv) rfl) ?_; clear he; (try clear a); intro a he
        refine qy he (y_cap rfl Try.underlying24) ?_; clear he; (try clear a); intro a he
        refine qy he (y_sliceA (lo := 0) (hi := 0) rfl Try.underlying24 ti21 (.inl ⟨rfl, rfl⟩) (.inr ⟨_, rfl, rfl⟩) (by decide) (by decide)) ?_; clear he; (try clear a); intro a he
        refine qy he (y_assign rfl) ?_; clear he; (try clear a); intro a he
        refine QL_nil he ?_; clear he hs; intro a w hs
        refine hK32 _ _ ?_; clear hK32
        refine W_seq fun K33 hK33 => ?_
        refine W_region ?_
        refine sy hs (y_assign rfl) ?_; clear hs; (try clear a w); intro a w hs
        refine RL_nil ?_
        refine hK33 _ _ ?_; clear hK33
        refine W_block fun Qe34 hB34 hO34 => ?_
        refine W_loop (fun (_ : Nat) a w => St 101 w0 f (.blk b (.cells #[lsv, wsv, .int .i64 held, .bool false] bkT) :: (Ls ++ L)) [(0, .pointer (some ⟨b, 0, none⟩)), (1, .func (.func 16) #[] #[]), (8, .int .i64 i), (9, .slice none 0 0), (10, .int .i64 0)] a w) (fun _ => 0) 0
          (hs.sub ⟨rfl, rfl, rfl, rfl, rfl, trivial⟩) ?_
        clear hs; rintro k a w hs K' hK'
        refine W_seq fun K35 hK35 => ?_
        refine W_seq fun K36 hK36 => ?_
        refine W_region ?_
        refine sy hs (y_move rfl) ?_; clear hs; (try clear a w); intro a w hs
        refine sy hs (y_move rfl) ?_; clear hs; (try clear a w); intro a w hs
        refine sy hs (y_len rfl Try.underlying24) ?_; clear hs; (try clear a w); intro a w hs
        refine sy hs (y_lss rfl rfl) ?_; clear hs; (try clear a w); intro a w hs
        refine RL_nil ?_
        refine hK36 _ _ ?_; clear hK36
        refine W_condF hs rfl ?_
        refine W_exit ?_
        refine hB34 _ _ ?_
        refine hK30 _ _ ?_; clear hK30
        refine W_region ?_
        refine sy hs (y_move rfl) ?_; clear hs; (try clear a w); intro a w hs
        refine sy hs (y_add rfl rfl (wr_i64 (by omega))) ?_; clear hs; (try clear a w); intro a w hs
        refine sy hs (y_assign rfl) ?_; clear hs; (try clear a w); intro a w hs
        refine RL_nil ?_
        exact hK (i + 1) _ _ (by omega) ⟨by omega, hs.sub ⟨rfl, rfl, rfl, trivial⟩⟩
      · obtain ⟨g, n, cur, rfl, hnc, hcm, rfl⟩ : ∃ g n cur, v = .slice (some ⟨g, 0, none⟩) n cur.size ∧ n ≤ cur.size ∧ cur.size ≤ maxLen ∧ x = .blk g (.cells cur 21 (0, 0)) := by
          rcases hsl with ⟨h, _⟩ | h
          · exact absurd h hnil
          · exact h
        replace hmk := hmk (by omega) g cur rfl
        simp only [maxLen] at hcm
        have hmem : Ent.blk g (.cells cur 21 (0, 0)) ∈ Ent.blk b (.cells #[lsv, wsv, .int .i64 held, .bool false] bkT) :: (Ls ++ L) := .tail _ (List.mem_append_left _ (List.mem_of_getElem? hx))
        refine W_skip ?_
        refine hK28 _ _ ?_; clear hK28
        refine W_seq fun K37 hK37 => ?_
        refine W_block fun Qe38 hB38 hO38 => ?_
        refine W_seq fun K39 hK39 => ?_
        refine W_draw hs mixed (by kernel_rfl) ?_; intro a he
        refine qy he (y_move rfl) ?_; clear he; (try clear a); intro a he
        first | (refine qy he (y_nilCheck rfl) ?_; clear he; (try clear a); intro a he) | (refine qy he (y_nilE rfl) ?_; clear he; (try clear a); intro a he)
        first | (refine qy he (y_fieldAddr rfl (FO.of (off := 0) Try.underlying36 rfl rfl ti34 (by decide))) ?_; clear he; (try clear a); intro a he) | (refine qy he (y_faE rfl (FO.of (off := 0) Try.underlying36 rfl rfl ti34 (by decide))) ?_; clear he; (try clear a); intro a he)
        first | (refine qy he (y_ld rfl Try.underlying34 rfl) ?_; clear he; (try clear a); intro a he) | (refine qy he (y_ldE rfl Try.underlying34 rfl) ?_; clear he; (try clear a); intro a he)
        refine qy he (y_move rfl) ?_; clear he; (try clear a); intro a he
        refine qy he (y_ix (m := i) rfl rfl Try.underlying34 ti24 rfl hRl (by simp; omega)) ?_; clear he; (try clear a); intro a he
        refine qy he (y_ldE rfl Try.underlying24 rfl hRl.up (map_get hv) rfl) ?_; clear he; (try clear a); intro a he
        refine qy he (y_move rfl) ?_; clear he; (try clear a); intro a he
        first | (refine qy he (y_nilCheck rfl) ?_; clear he; (try clear a); intro a he) | (refine qy he (y_nilE rfl) ?_; clear he; (try clear a); intro a he)
        first | (refine qy he (y_fieldAddr rfl (FO.of (off := 0) Try.underlying36 rfl rfl ti34 (by decide))) ?_; clear he; (try clear a); intro a he) | (refine qy he (y_faE rfl (FO.of (off := 0) Try.underlying36 rfl rfl ti34 (by decide))) ?_; clear he; (try clear a); intro a he)
        first | (refine qy he (y_ld rfl Try.underlying34 rfl) ?_; clear he; (try clear a); intro a he) | (refine qy he (y_ldE rfl Try.underlying34 rfl) ?_; clear he; (try clear a); intro a he)
        refine qy he (y_move rfl) ?_; clear he; (try clear a); intro a he
        refine qy he (y_ix (m := i) rfl rfl Try.underlying34 ti24 rfl hRl (by simp; omega)) ?_; clear he; (try clear a); intro a he
        refine qy he (y_ldE rfl Try.underlying24 rfl hRl.up (map_get hv) rfl) ?_; clear he; (try clear a); intro a he
        refine qy he (y_cap rfl Try.underlying24) ?_; clear he; (try clear a); intro a he
        refine qy he (y_sliceA (lo := 0) (hi := cur.size) rfl Try.underlying24 ti21 (.inl ⟨rfl, rfl⟩) (.inr ⟨_, rfl, rfl⟩) (by omega) (by omega)) ?_; clear he; (try clear a); intro a he
        refine qy he (y_assign rfl) ?_; clear he; (try clear a); intro a he
        refine QL_nil he ?_; clear he hs; intro a w hs
        refine hK39 _ _ ?_; clear hK39
        refine W_seq fun K40 hK40 => ?_
        refine W_region ?_
        refine sy hs (y_assign rfl) ?_; clear hs; (try clear a w); intro a w hs
        refine RL_nil ?_
        refine hK40 _ _ ?_; clear hK40
        refine W_block fun Qe41 hB41 hO41 => ?_
        rw [cutv_full] at hs
        refine W_loop (fun (k : Nat) a w => k ≤ cur.size ∧ St 101 w0 f (.blk b (.cells #[lsv, wsv, .int .i64 held, .bool false] bkT) :: (Ls ++ L)) [(0, .pointer (some ⟨b, 0, none⟩)), (1, .func (.func 16) #[] #[]), (8, .int .i64 i), (9, .slice (some ⟨g, 0, none⟩) cur.size cur.size), (10, .int .i64 k)] a w) (fun k => cur.size - k) 0
          ⟨by omega, hs.sub ⟨rfl, rfl, rfl, rfl, rfl, trivial⟩⟩ ?_
        clear hs; rintro k a w ⟨hk, hs⟩ K' hK'
        refine W_seq fun K42 hK42 => ?_
        refine W_seq fun K43 hK43 => ?_
        refine W_region ?_
        refine sy hs (y_move rfl) ?_; clear hs; (try clear a w); intro a w hs
        refine sy hs (y_move rfl) ?_; clear hs; (try clear a w); intro a w hs
        refine sy hs (y_len rfl Try.underlying24) ?_; clear hs; (try clear a w); intro a w hs
        refine sy hs (y_lss rfl rfl) ?_; clear hs; (try clear a w); intro a w hs
        refine RL_nil ?_
        refine hK43 _ _ ?_; clear hK43
        first | refine W_condP hs rfl (fun hkl => ?_) (fun hkl => ?_) | refine W_cond hs rfl (fun hkl => ?_) (fun hkl => ?_)
        · have hcell : Cell f (.blk b (.cells #[lsv, wsv, .int .i64 held, .bool false] bkT) :: (Ls ++ L)) g (0 + k * 1) (.int .i32 (-1000 - (i : Int))) := Cell.blk hmem (by simpa using hmk k (by omega))
          refine W_skip ?_
          refine hK42 _ _ ?_; clear hK42
          refine W_seq fun K44 hK44 => ?_
          refine W_block fun Qe45 hB45 hO45 => ?_
          refine W_seq fun K46 hK46 => ?_
          refine W_draw hs mixed (by kernel_rfl) ?_; intro a he
          refine qy he (y_move rfl) ?_; clear he; (try clear a); intro a he
          refine qy he (y_move rfl) ?_; clear he; (try clear a); intro a he
          refine qy he (y_ixA (j := k) rfl rfl Try.underlying24 ti21 rfl (by omega)) ?_; clear he; (try clear a); intro a he
          first | (refine qy he (y_ld rfl Try.underlying21 rfl) ?_; clear he; (try clear a); intro a he) | (refine qy he (y_ldE rfl Try.underlying21 rfl) ?_; clear he; (try clear a); intro a he)
          refine qy he (y_move rfl) ?_; clear he; (try clear a); intro a he
          refine qy he (y_move rfl) ?_; clear he; (try clear a); intro a he
          refine qy he (y_move rfl) ?_; clear he; (try clear a); intro a he
          refine qy he (y_call rfl has16 rfl (Runes_ok (by omega))) ?_; clear he; (try clear a); intro a he
          refine qy he (y_neq rfl rfl) ?_; clear he; (try clear a); intro a he
          refine QL_nil he ?_; clear he hs; intro a w hs
          refine hK46 _ _ ?_; clear hK46
          rw [show decide ((-1000 - (i : Int)) ≠ (-1000 - (i : Int))) = false from by simp] at hs
          refine W_condF hs rfl ?_
          refine W_skip ?_
          refine hK44 _ _ ?_; clear hK44
          refine W_region ?_
          refine sy hs (y_move rfl) ?_; clear hs; (try clear a w); intro a w hs
          refine sy hs (y_add rfl rfl (wr_i64 (by omega))) ?_; clear hs; (try clear a w); intro a w hs
          refine sy hs (y_assign rfl) ?_; clear hs; (try clear a w); intro a w hs
          refine RL_nil ?_
          exact hK' (k + 1) _ _ (by omega) ⟨by omega, hs.sub ⟨rfl, rfl, rfl, rfl, rfl, trivial⟩⟩
        · refine W_exit ?_
          refine hB41 _ _ ?_
          refine hK37 _ _ ?_; clear hK37
          refine W_region ?_
          refine sy hs (y_move rfl) ?_; clear hs; (try clear a w); intro a w hs
          refine sy hs (y_add rfl rfl (wr_i64 (by omega))) ?_; clear hs; (try clear a w); intro a w hs
          refine sy hs (y_assign rfl) ?_; clear hs; (try clear a w); intro a w hs
          refine RL_nil ?_
          exact hK (i + 1) _ _ (by omega) ⟨by omega, hs.sub ⟨rfl, rfl, rfl, trivial⟩⟩
    · refine W_exit ?_
      refine hB27 _ _ ?_
      refine hK25 _ _ ?_; clear hK25
      refine W_seq fun K47 hK47 => ?_
      refine W_region ?_
      refine sy hs (y_move rfl) ?_; clear hs; (try clear a w); intro a w hs
      first | (refine sy hs (y_nilCheck rfl) ?_; clear hs; (try clear a w); intro a w hs) | (refine sy hs (y_nilE rfl) ?_; clear hs; (try clear a w); intro a w hs)
      first | (refine sy hs (y_fieldAddr rfl (FO.of (off := 0) Try.underlying36 rfl rfl ti34 (by decide))) ?_; clear hs; (try clear a w); intro a w hs) | (refine sy hs (y_faE rfl (FO.of (off := 0) Try.underlying36 rfl rfl ti34 (by decide))) ?_; clear hs; (try clear a w); intro a w hs)
      refine sstore 0 hs rfl rfl rfl ti34 (by first | rfl | assumption) ?_; clear hs; (try clear a w); intro a w hs; (try simp only [List.set] at hs); (try simp only [Array.setIfInBounds] at hs)
      refine RL_nil ?_
      refine hK47 _ _ ?_; clear hK47
      refine W_seq fun K48 hK48 => ?_
      refine W_region ?_
      refine sy hs (y_move rfl) ?_; clear hs; (try clear a w); intro a w hs
      first | (refine sy hs (y_nilCheck rfl) ?_; clear hs; (try clear a w); intro a w hs) | (refine sy hs (y_nilE rfl) ?_; clear hs; (try clear a w); intro a w hs)
      first | (refine sy hs (y_fieldAddr rfl (FO.of (off := 1) Try.underlying36 rfl rfl ti34 (by decide))) ?_; clear hs; (try clear a w); intro a w hs) | (refine sy hs (y_faE rfl (FO.of (off := 1) Try.underlying36 rfl rfl ti34 (by decide))) ?_; clear hs; (try clear a w); intro a w hs)
      refine sstore 0 hs rfl rfl rfl ti34 (by first | rfl | assumption) ?_; clear hs; (try clear a w); intro a w hs; (try simp only [List.set] at hs); (try simp only [Array.setIfInBounds] at hs)
      refine RL_nil ?_
      refine hK48 _ _ ?_; clear hK48
      refine W_seq fun K49 hK49 => ?_
      refine W_region ?_
      refine sy hs (y_move rfl) ?_; clear hs; (try clear a w); intro a w hs
      first | (refine sy hs (y_nilCheck rfl) ?_; clear hs; (try clear a w); intro a w hs) | (refine sy hs (y_nilE rfl) ?_; clear hs; (try clear a w); intro a w hs)
      first | (refine sy hs (y_fieldAddr rfl (FO.of (off := 2) Try.underlying36 rfl rfl ti3 (by decide))) ?_; clear hs; (try clear a w); intro a w hs) | (refine sy hs (y_faE rfl (FO.of (off := 2) Try.underlying36 rfl rfl ti3 (by decide))) ?_; clear hs; (try clear a w); intro a w hs)
      refine sstore 0 hs rfl rfl rfl ti3 (by first | rfl | assumption) ?_; clear hs; (try clear a w); intro a w hs; (try simp only [List.set] at hs); (try simp only [Array.setIfInBounds] at hs)
      refine RL_nil ?_
      refine hK49 _ _ ?_; clear hK49
      refine W_seq fun K50 hK50 => ?_
      refine W_region ?_
      refine sy hs (y_assign rfl) ?_; clear hs; (try clear a w); intro a w hs
      refine RL_nil ?_
      refine hK50 _ _ ?_; clear hK50
      refine W_ret ?_
      refine Rt_1 hs rfl rfl ?_
      exact ⟨rfl, hs.cw.tail.sub (List.sublist_append_right _ _)⟩

