/-
  Walks and laws of this seat; the base is the text Base.
-/
import Derived.Test.YthmnohdlhlmmpaaC16a
import Derived.Test.YthmnohdlhlmmpaaRows
namespace Go.Proofs.Ythmnohdlhlmmpaa
open Go.RowKit Go.Sl
set_option maxRecDepth 20000 in
set_option maxHeartbeats 8000000 in
theorem Apart_ok {f0 f : Fz} {w0 w : World} {L : List Ent} {b : Nat} {lv wv : Value} {lr wr : List (List Value)} {lo lo' : Nat} {held : Int} {ls ws : List Value} (hB : Book f lr wr lo lo' ls ws) (hn2 : ls.length ≤ 4000) (hle : Fz.le f0 f)
    (hO : ∀ v ∈ ls, OwnV f0 f v 2 29) (hP : ls.Pairwise fun v u => ∀ b, vblk v = some b → vblk u ≠ some b) (hC : Cw w0 f (BkL b lv wv lr wr lo lo' held ++ L) w) :
    Calls Try.prog 29 [.pointer (some ⟨b, 0, none⟩), .func (.func 30) #[] #[]].toArray w fun e w' => e = .returned (.bool true) ∧ Cw w0 f0 L w' := by
  refine enter Try.func29 rfl Try.ntmps29 (by simp) hC fun a hs => ?_
  refine W_seq fun K1 hK1 => ?_
  refine W_region ?_
  refine sy hs (y_assign rfl) ?_; clear hs; (try clear a w); intro a w hs
  refine RL_nil ?_
  refine hK1 _ _ ?_; clear hK1
  refine W_seq fun K2 hK2 => ?_
  refine W_seq fun K3 hK3 => ?_
  refine W_region ?_
  refine sy hs (y_move rfl) ?_; clear hs; (try clear a w); intro a w hs
  refine sy hs (y_callC rfl has59 rfl (fun w hw => Stays_ok hB hn2 hw)) ?_; clear hs; (try clear a w); intro a w hs
  refine sy hs (y_not rfl) ?_; clear hs; (try clear a w); intro a w hs
  refine RL_nil ?_
  refine hK3 _ _ ?_; clear hK3
  refine W_condF hs rfl ?_
  refine W_skip ?_
  refine hK2 _ _ ?_; clear hK2
  refine W_seq fun K4 hK4 => ?_
  refine W_seq fun K5 hK5 => ?_
  refine W_region ?_
  refine sy hs (y_assign rfl) ?_; clear hs; (try clear a w); intro a w hs
  refine RL_nil ?_
  refine hK5 _ _ ?_; clear hK5
  refine W_block fun Qe6 hB6 hO6 => ?_
  obtain ⟨Ls, hl, hLs, hk0, hC'⟩ := letgoS hs.cw hle hO hP
  replace hs : St 101 w0 f0 (.blk b (.cells #[cutv lv 1 lo lr.length, cutv wv 1 lo' wr.length, .int .i64 held, .bool false] 48 (0, 0)) :: .row lv 23 1 lr :: (Ls ++ L)) _ _ _ := ⟨hs.ev, (hC'.perm (L' := .blk b (.cells #[cutv lv 1 lo lr.length, cutv wv 1 lo' wr.length, .int .i64 held, .bool false] 48 (0, 0)) :: .row lv 23 1 lr :: .row wv 23 1 wr :: (Ls ++ L)) (permX Ls [_, _, _] L)).sub (.cons_cons _ (.cons_cons _ (.cons _ (.refl _))))⟩
  refine W_loop (fun (i : Nat) a w => i ≤ ls.length ∧ ∃ Ls : List Ent, Ls.length = ls.length ∧ (∀ (j : Nat) (v : Value), ls[j]? = some v → ∃ x, Ls[j]? = some x ∧ Slot2 v x ∧ (j < i → Marked j x)) ∧
    St 101 w0 f0 (.blk b (.cells #[cutv lv 1 lo lr.length, cutv wv 1 lo' wr.length, .int .i64 held, .bool false] 48 (0, 0)) :: .row lv 23 1 lr :: (Ls ++ L)) [(0, .pointer (some ⟨b, 0, none⟩)), (1, .func (.func 30) #[] #[]), (5, .int .i64 i)] a w) (fun i => ls.length - i) 0
    ⟨by omega, Ls, hl, fun j v h => (by obtain ⟨x, e1, e2⟩ := hLs j v h; exact ⟨x, e1, e2, fun h => absurd h (by omega)⟩), hs.sub ⟨rfl, rfl, rfl, trivial⟩⟩ ?_
  clear hs hl hLs hk0 hC' hC; clear Ls; rintro i a w ⟨hi, Ls, hl, hLs, hs⟩ K hK
  have hRl := rdCut (Rd.st hs (.tail _ (.head _))) hB.l0 hB.rl
  refine W_seq fun K7 hK7 => ?_
  refine W_seq fun K8 hK8 => ?_
  refine W_region ?_
  refine sy hs (y_move rfl) ?_; clear hs; (try clear a w); intro a w hs
  refine sy hs (y_move rfl) ?_; clear hs; (try clear a w); intro a w hs
  first | (refine sy hs (y_nilCheck rfl) ?_; clear hs; (try clear a w); intro a w hs) | (refine sy hs (y_nilE rfl) ?_; clear hs; (try clear a w); intro a w hs)
  first | (refine sy hs (y_fieldAddr rfl (FO.of (off := 0) Try.underlying48 rfl rfl ti46 (by decide))) ?_; clear hs; (try clear a w); intro a w hs) | (refine sy hs (y_faE rfl (FO.of (off := 0) Try.underlying48 rfl rfl ti46 (by decide))) ?_; clear hs; (try clear a w); intro a w hs)
  first | (refine sy hs (y_ld rfl Try.underlying46 rfl) ?_; clear hs; (try clear a w); intro a w hs) | (refine sy hs (y_ldE rfl Try.underlying46 rfl) ?_; clear hs; (try clear a w); intro a w hs)
  refine sy hs (y_lenR0 hRl rfl Try.underlying46) ?_; clear hs; (try clear a w); intro a w hs
  refine sy hs (y_lss rfl rfl) ?_; clear hs; (try clear a w); intro a w hs
  refine RL_nil ?_
  refine hK8 _ _ ?_; clear hK8
  first | refine W_condP hs rfl (fun hlt => ?_) (fun hlt => ?_) | refine W_cond hs rfl (fun hlt => ?_) (fun hlt => ?_)
  · have hlt' : i < ls.length := by
      have : ((i : Nat) : Int) < ((ls.length : Nat) : Int) := by simpa using hlt
      omega
    obtain ⟨v, hv⟩ : ∃ v, ls[i]? = some v := ⟨_, List.getElem?_eq_getElem (by omega)⟩
    obtain ⟨x, hx, hsl, hmk⟩ := hLs i v hv
    by_cases hnil : v = .slice none 0 0
    · subst hnil
      refine W_skip ?_
      refine hK7 _ _ ?_; clear hK7
      refine W_seq fun K9 hK9 => ?_
      refine W_block fun Qe10 hB10 hO10 => ?_
      refine W_seq fun K11 hK11 => ?_
      refine W_draw hs mixed (by kernel_rfl) ?_; intro a he
      refine qy he (y_move rfl) ?_; clear he; (try clear a); intro a he
      first | (refine qy he (y_nilCheck rfl) ?_; clear he; (try clear a); intro a he) | (refine qy he (y_nilE rfl) ?_; clear he; (try clear a); intro a he)
      first | (refine qy he (y_fieldAddr rfl (FO.of (off := 0) Try.underlying48 rfl rfl ti46 (by decide))) ?_; clear he; (try clear a); intro a he) | (refine qy he (y_faE rfl (FO.of (off := 0) Try.underlying48 rfl rfl ti46 (by decide))) ?_; clear he; (try clear a); intro a he)
      first | (refine qy he (y_ld rfl Try.underlying46 rfl) ?_; clear he; (try clear a); intro a he) | (refine qy he (y_ldE rfl Try.underlying46 rfl) ?_; clear he; (try clear a); intro a he)
      refine qy he (y_move rfl) ?_; clear he; (try clear a); intro a he
      refine qy he (y_ix (m := i) rfl rfl Try.underlying46 ti23 rfl hRl (by simp; omega)) ?_; clear he; (try clear a); intro a he
      refine qy he (y_ldE rfl Try.underlying23 rfl hRl (map_get hv) rfl) ?_; clear he; (try clear a); intro a he
      refine qy he (y_move rfl) ?_; clear he; (try clear a); intro a he
      first | (refine qy he (y_nilCheck rfl) ?_; clear he; (try clear a); intro a he) | (refine qy he (y_nilE rfl) ?_; clear he; (try clear a); intro a he)
      first | (refine qy he (y_fieldAddr rfl (FO.of (off := 0) Try.underlying48 rfl rfl ti46 (by decide))) ?_; clear he; (try clear a); intro a he) | (refine qy he (y_faE rfl (FO.of (off := 0) Try.underlying48 rfl rfl ti46 (by decide))) ?_; clear he; (try clear a); intro a he)
      first | (refine qy he (y_ld rfl Try.underlying46 rfl) ?_; clear he; (try clear a); intro a he) | (refine qy he (y_ldE rfl Try.underlying46 rfl) ?_; clear he; (try clear a); intro a he)
      refine qy he (y_move rfl) ?_; clear he; (try clear a); intro a he
      refine qy he (y_ix (m := i) rfl rfl Try.underlying46 ti23 rfl hRl (by simp; omega)) ?_; clear he; (try clear a); intro a he
      refine qy he (y_ldE rfl Try.underlying23 rfl hRl (map_get hv) rfl) ?_; clear he; (try clear a); intro a he
      refine qy he (y_cap rfl Try.underlying23) ?_; clear he; (try clear a); intro a he
      refine qy he (y_sliceA (lo := 0) (hi := 0) rfl Try.underlying23 ti29 (.inl ⟨rfl, rfl⟩) (.inr ⟨_, rfl, rfl⟩) (by decide) (by decide)) ?_; clear he; (try clear a); intro a he
      refine qy he (y_assign rfl) ?_; clear he; (try clear a); intro a he
      refine QL_nil he ?_; clear he hs; intro a w hs
      refine hK11 _ _ ?_; clear hK11
      refine W_seq fun K12 hK12 => ?_
      refine W_region ?_
      refine sy hs (y_assign rfl) ?_; clear hs; (try clear a w); intro a w hs
      refine RL_nil ?_
      refine hK12 _ _ ?_; clear hK12
      refine W_block fun Qe13 hB13 hO13 => ?_
      refine W_loop (fun (_ : Nat) a w => St 101 w0 f0 (.blk b (.cells #[cutv lv 1 lo lr.length, cutv wv 1 lo' wr.length, .int .i64 held, .bool false] 48 (0, 0)) :: .row lv 23 1 lr :: (Ls ++ L)) [(0, .pointer (some ⟨b, 0, none⟩)), (1, .func (.func 30) #[] #[]), (5, .int .i64 i), (6, .slice none 0 0), (7, .int .i64 0)] a w) (fun _ => 0) 0
        (hs.sub ⟨rfl, rfl, rfl, rfl, rfl, trivial⟩) ?_
      clear hs; rintro k a w hs K' hK'
      refine W_seq fun K14 hK14 => ?_
      refine W_seq fun K15 hK15 => ?_
      refine W_region ?_
      refine sy hs (y_move rfl) ?_; clear hs; (try clear a w); intro a w hs
      refine sy hs (y_move rfl) ?_; clear hs; (try clear a w); intro a w hs
      refine sy hs (y_len rfl Try.underlying23) ?_; clear hs; (try clear a w); intro a w hs
      refine sy hs (y_lss rfl rfl) ?_; clear hs; (try clear a w); intro a w hs
      refine RL_nil ?_
      refine hK15 _ _ ?_; clear hK15
      refine W_condF hs rfl ?_
      refine W_exit ?_
      refine hB13 _ _ ?_
      refine hK9 _ _ ?_; clear hK9
      refine W_region ?_
      refine sy hs (y_move rfl) ?_; clear hs; (try clear a w); intro a w hs
      refine sy hs (y_add rfl rfl (wr_i64 (by omega))) ?_; clear hs; (try clear a w); intro a w hs
      refine sy hs (y_assign rfl) ?_; clear hs; (try clear a w); intro a w hs
      refine RL_nil ?_
      refine hK (i + 1) _ _ (by omega) ⟨by omega, Ls, hl, fun j v h => ?_, hs.sub ⟨rfl, rfl, rfl, trivial⟩⟩
      obtain ⟨x', e1, e2, e3⟩ := hLs j v h
      refine ⟨x', e1, e2, fun hj => ?_⟩
      by_cases hji : j = i
      · subst hji
        rw [hv] at h; cases h
        rcases e2 with ⟨_, rfl⟩ | ⟨g, m, c, cur, h, _⟩
        · intro g cur h; cases h
        · cases h
      · exact e3 (by omega)
    · obtain ⟨g, m, c, cur, rfl, hmc, hcm, hcs, rfl⟩ : ∃ g m c cur, v = .slice (some ⟨g, 0, none⟩) m c ∧ m ≤ c ∧ c ≤ maxLen ∧ cur.size = c * 2 ∧ x = .blk g (.cells cur 29 (0, 0)) := by
        rcases hsl with ⟨h, _⟩ | h
        · exact absurd h hnil
        · exact h
      simp only [maxLen] at hcm
      refine W_skip ?_
      refine hK7 _ _ ?_; clear hK7
      refine W_seq fun K16 hK16 => ?_
      refine W_block fun Qe17 hB17 hO17 => ?_
      refine W_seq fun K18 hK18 => ?_
      refine W_draw hs mixed (by kernel_rfl) ?_; intro a he
      refine qy he (y_move rfl) ?_; clear he; (try clear a); intro a he
      first | (refine qy he (y_nilCheck rfl) ?_; clear he; (try clear a); intro a he) | (refine qy he (y_nilE rfl) ?_; clear he; (try clear a); intro a he)
      first | (refine qy he (y_fieldAddr rfl (FO.of (off := 0) Try.underlying48 rfl rfl ti46 (by decide))) ?_; clear he; (try clear a); intro a he) | (refine qy he (y_faE rfl (FO.of (off := 0) Try.underlying48 rfl rfl ti46 (by decide))) ?_; clear he; (try clear a); intro a he)
      first | (refine qy he (y_ld rfl Try.underlying46 rfl) ?_; clear he; (try clear a); intro a he) | (refine qy he (y_ldE rfl Try.underlying46 rfl) ?_; clear he; (try clear a); intro a he)
      refine qy he (y_move rfl) ?_; clear he; (try clear a); intro a he
      refine qy he (y_ix (m := i) rfl rfl Try.underlying46 ti23 rfl hRl (by simp; omega)) ?_; clear he; (try clear a); intro a he
      refine qy he (y_ldE rfl Try.underlying23 rfl hRl (map_get hv) rfl) ?_; clear he; (try clear a); intro a he
      refine qy he (y_move rfl) ?_; clear he; (try clear a); intro a he
      first | (refine qy he (y_nilCheck rfl) ?_; clear he; (try clear a); intro a he) | (refine qy he (y_nilE rfl) ?_; clear he; (try clear a); intro a he)
      first | (refine qy he (y_fieldAddr rfl (FO.of (off := 0) Try.underlying48 rfl rfl ti46 (by decide))) ?_; clear he; (try clear a); intro a he) | (refine qy he (y_faE rfl (FO.of (off := 0) Try.underlying48 rfl rfl ti46 (by decide))) ?_; clear he; (try clear a); intro a he)
      first | (refine qy he (y_ld rfl Try.underlying46 rfl) ?_; clear he; (try clear a); intro a he) | (refine qy he (y_ldE rfl Try.underlying46 rfl) ?_; clear he; (try clear a); intro a he)
      refine qy he (y_move rfl) ?_; clear he; (try clear a); intro a he
      refine qy he (y_ix (m := i) rfl rfl Try.underlying46 ti23 rfl hRl (by simp; omega)) ?_; clear he; (try clear a); intro a he
      refine qy he (y_ldE rfl Try.underlying23 rfl hRl (map_get hv) rfl) ?_; clear he; (try clear a); intro a he
      refine qy he (y_cap rfl Try.underlying23) ?_; clear he; (try clear a); intro a he
      refine qy he (y_sliceA (lo := 0) (hi := c) rfl Try.underlying23 ti29 (.inl ⟨rfl, rfl⟩) (.inr ⟨_, rfl, rfl⟩) (by omega) (by omega)) ?_; clear he; (try clear a); intro a he
      refine qy he (y_assign rfl) ?_; clear he; (try clear a); intro a he
      refine QL_nil he ?_; clear he hs; intro a w hs
      refine hK18 _ _ ?_; clear hK18
      refine W_seq fun K19 hK19 => ?_
      refine W_region ?_
      refine sy hs (y_assign rfl) ?_; clear hs; (try clear a w); intro a w hs
      refine RL_nil ?_
      refine hK19 _ _ ?_; clear hK19
      refine W_block fun Qe20 hB20 hO20 => ?_
      rw [cutv_full] at hs
      refine W_loop (fun (k : Nat) a w => k ≤ c ∧ ∃ cur : Array Value, cur.size = c * 2 ∧ (∀ k', k' < k → cur[2 * k']? = some (.string (mkA i k').Name) ∧ cur[2 * k' + 1]? = some (.string (mkA i k').Value)) ∧
        St 101 w0 f0 (.blk b (.cells #[cutv lv 1 lo lr.length, cutv wv 1 lo' wr.length, .int .i64 held, .bool false] 48 (0, 0)) :: .row lv 23 1 lr :: (Ls.set i (.blk g (.cells cur 29 (0, 0))) ++ L)) [(0, .pointer (some ⟨b, 0, none⟩)), (1, .func (.func 30) #[] #[]), (5, .int .i64 i), (6, .slice (some ⟨g, 0, none⟩) c c), (7, .int .i64 k)] a w) (fun k => c - k) 0
        ⟨by omega, cur, hcs, fun k' h => absurd h (by omega), by rw [set_self hx]; exact hs.sub ⟨rfl, rfl, rfl, rfl, rfl, trivial⟩⟩ ?_
      clear hs hRl; rintro k a w ⟨hk, cur', hc', hmk', hs⟩ K' hK'
      refine W_seq fun K21 hK21 => ?_
      refine W_seq fun K22 hK22 => ?_
      refine W_region ?_
      refine sy hs (y_move rfl) ?_; clear hs; (try clear a w); intro a w hs
      refine sy hs (y_move rfl) ?_; clear hs; (try clear a w); intro a w hs
      refine sy hs (y_len rfl Try.underlying23) ?_; clear hs; (try clear a w); intro a w hs
      refine sy hs (y_lss rfl rfl) ?_; clear hs; (try clear a w); intro a w hs
      refine RL_nil ?_
      refine hK22 _ _ ?_; clear hK22
      first | refine W_condP hs rfl (fun hkl => ?_) (fun hkl => ?_) | refine W_cond hs rfl (fun hkl => ?_) (fun hkl => ?_)
      · have hkl' : k < c := by
          have : ((k : Nat) : Int) < ((c : Nat) : Int) := by simpa using hkl
          omega
        refine W_skip ?_
        refine hK21 _ _ ?_; clear hK21
        refine W_seq fun K23 hK23 => ?_
        refine W_block fun Qe24 hB24 hO24 => ?_
        refine W_region ?_
        refine sy hs (y_move rfl) ?_; clear hs; (try clear a w); intro a w hs
        refine sy hs (y_move rfl) ?_; clear hs; (try clear a w); intro a w hs
        refine sy hs (y_move rfl) ?_; clear hs; (try clear a w); intro a w hs
        refine sy hs (y_move rfl) ?_; clear hs; (try clear a w); intro a w hs
        refine sy hs (y_move rfl) ?_; clear hs; (try clear a w); intro a w hs
        refine sy hs (y_call rfl has30 rfl (law4_attr_ok 0 (attr_some i k))) ?_; clear hs; (try clear a w); intro a w hs
        refine sy hs (y_ixA (j := k) rfl rfl Try.underlying23 ti29 rfl hkl') ?_; clear hs; (try clear a w); intro a w hs
        refine RL_storeOff (i := i + 2) (b := g) (o := 0 + k * 2) (k := 2) (cs := cur') (e := 29) (r' := [.string (mkA i k).Name, .string (mkA i k).Value]) hs (by rw [List.getElem?_cons_succ, List.getElem?_cons_succ, List.getElem?_append_left (by simp; omega)]; exact List.getElem?_set_self (by omega)) rfl rfl ti29 ⟨rfl, by simp [Value.oneCell']⟩ (by omega) (.free rfl) ?_; clear hs; (try clear a w); intro a w hs; rw [List.set_cons_succ, List.set_cons_succ, List.set_append_left _ _ (by simp; omega), set_twice] at hs
        refine RL_nil ?_
        refine hK23 _ _ ?_; clear hK23
        obtain ⟨cur2, hcur2⟩ : ∃ c2, c2 = (cur'.toList.take (0 + k * 2) ++ [Value.string (mkA i k).Name, .string (mkA i k).Value] ++ cur'.toList.drop (0 + k * 2 + [Value.string (mkA i k).Name, .string (mkA i k).Value].length)).toArray := ⟨_, rfl⟩
        rw [← hcur2] at hs
        obtain ⟨p1, p2, p3, p4⟩ := put2 cur' k c _ _ hc' hkl' hcur2
        refine W_region ?_
        refine sy hs (y_move rfl) ?_; clear hs; (try clear a w); intro a w hs
        refine sy hs (y_add rfl rfl (wr_i64 (by omega))) ?_; clear hs; (try clear a w); intro a w hs
        refine sy hs (y_assign rfl) ?_; clear hs; (try clear a w); intro a w hs
        refine RL_nil ?_
        refine hK' (k + 1) _ _ (by omega) ⟨by omega, cur2, p1, fun k' h => ?_, hs.sub ⟨rfl, rfl, rfl, rfl, rfl, trivial⟩⟩
        by_cases e : k' = k
        · subst e; exact ⟨p2, p3⟩
        · rw [p4 _ (by omega), p4 _ (by omega)]; exact hmk' k' (by omega)
      · refine W_exit ?_
        refine hB20 _ _ ?_
        refine hK16 _ _ ?_; clear hK16
        refine W_region ?_
        refine sy hs (y_move rfl) ?_; clear hs; (try clear a w); intro a w hs
        refine sy hs (y_add rfl rfl (wr_i64 (by omega))) ?_; clear hs; (try clear a w); intro a w hs
        refine sy hs (y_assign rfl) ?_; clear hs; (try clear a w); intro a w hs
        refine RL_nil ?_
        refine hK (i + 1) _ _ (by omega) ⟨by omega, _, by rw [List.length_set]; exact hl, fun j v h => ?_, hs.sub ⟨rfl, rfl, rfl, trivial⟩⟩
        by_cases hji : j = i
        · subst hji
          rw [hv] at h; cases h
          refine ⟨_, by rw [List.getElem?_set]; simp; omega, .inr ⟨g, m, c, cur', rfl, hmc, by simp only [maxLen]; omega, hc', rfl⟩, fun _ g' cur2 h k' hk' => ?_⟩
          cases h
          have hkc : ¬ k < c := fun h => hkl (by simp; omega)
          exact hmk' k' (by omega)
        · obtain ⟨x', e1, e2, e3⟩ := hLs j v h
          exact ⟨x', by rw [List.getElem?_set_ne (by omega)]; exact e1, e2, fun hj => e3 (by omega)⟩
  · refine W_exit ?_
    refine hB6 _ _ ?_
    refine hK4 _ _ ?_; clear hK4
    refine W_seq fun K25 hK25 => ?_
    refine W_seq fun K26 hK26 => ?_
    refine W_region ?_
    refine sy hs (y_assign rfl) ?_; clear hs; (try clear a w); intro a w hs
    refine RL_nil ?_
    refine hK26 _ _ ?_; clear hK26
    refine W_block fun Qe27 hB27 hO27 => ?_
    have hLs' : ∀ (j : Nat) (v : Value), ls[j]? = some v → ∃ x, Ls[j]? = some x ∧ Slot2 v x ∧ (j < ls.length → Marked j x) := fun j v h => by
      obtain ⟨x, e1, e2, e3⟩ := hLs j v h
      have hge : ¬ i < ls.length := fun h => hlt (by simp; omega)
      exact ⟨x, e1, e2, fun hj => e3 (by omega)⟩
    clear hLs hK
    refine W_loop (fun (i : Nat) a w => i ≤ ls.length ∧ St 101 w0 f0 (.blk b (.cells #[cutv lv 1 lo lr.length, cutv wv 1 lo' wr.length, .int .i64 held, .bool false] 48 (0, 0)) :: .row lv 23 1 lr :: (Ls ++ L)) [(0, .pointer (some ⟨b, 0, none⟩)), (1, .func (.func 30) #[] #[]), (8, .int .i64 i)] a w) (fun i => ls.length - i) 0
      ⟨by omega, hs.sub ⟨rfl, rfl, rfl, trivial⟩⟩ ?_
    clear hs; rintro i a w ⟨hi2, hs⟩ K hK
    refine W_seq fun K28 hK28 => ?_
    refine W_seq fun K29 hK29 => ?_
    refine W_region ?_
    refine sy hs (y_move rfl) ?_; clear hs; (try clear a w); intro a w hs
    refine sy hs (y_move rfl) ?_; clear hs; (try clear a w); intro a w hs
    first | (refine sy hs (y_nilCheck rfl) ?_; clear hs; (try clear a w); intro a w hs) | (refine sy hs (y_nilE rfl) ?_; clear hs; (try clear a w); intro a w hs)
    first | (refine sy hs (y_fieldAddr rfl (FO.of (off := 0) Try.underlying48 rfl rfl ti46 (by decide))) ?_; clear hs; (try clear a w); intro a w hs) | (refine sy hs (y_faE rfl (FO.of (off := 0) Try.underlying48 rfl rfl ti46 (by decide))) ?_; clear hs; (try clear a w); intro a w hs)
    first | (refine sy hs (y_ld rfl Try.underlying46 rfl) ?_; clear hs; (try clear a w); intro a w hs) | (refine sy hs (y_ldE rfl Try.underlying46 rfl) ?_; clear hs; (try clear a w); intro a w hs)
    refine sy hs (y_lenR0 hRl rfl Try.underlying46) ?_; clear hs; (try clear a w); intro a w hs
    refine sy hs (y_lss rfl rfl) ?_; clear hs; (try clear a w); intro a w hs
    refine RL_nil ?_
    refine hK29 _ _ ?_; clear hK29
    first | refine W_condP hs rfl (fun hlt2 => ?_) (fun hlt2 => ?_) | refine W_cond hs rfl (fun hlt2 => ?_) (fun hlt2 => ?_)
    · have hlt' : i < ls.length := by
        have : ((i : Nat) : Int) < ((ls.length : Nat) : Int) := by simpa using hlt2
        omega
      obtain ⟨v, hv⟩ : ∃ v, ls[i]? = some v := ⟨_, List.getElem?_eq_getElem (by omega)⟩
      obtain ⟨x, hx, hsl, hmk⟩ := hLs' i v hv
      by_cases hnil : v = .slice none 0 0
      · subst hnil
        refine W_skip ?_
        refine hK28 _ _ ?_; clear hK28
        refine W_seq fun K30 hK30 => ?_
        refine W_block fun Qe31 hB31 hO31 => ?_
        refine W_seq fun K32 hK32 => ?_
        refine W_draw hs mixed (by kernel_rfl) ?_; intro a he
        refine qy he (y_move rfl) ?_; clear he; (try clear a); intro a he
        first | (refine qy he (y_nilCheck rfl) ?_; clear he; (try clear a); intro a he) | (refine qy he (y_nilE rfl) ?_; clear he; (try clear a); intro a he)
        first | (refine qy he (y_fieldAddr rfl (FO.of (off := 0) Try.underlying48 rfl rfl ti46 (by decide))) ?_; clear he; (try clear a); intro a he) | (refine qy he (y_faE rfl (FO.of (off := 0) Try.underlying48 rfl rfl ti46 (by decide))) ?_; clear he; (try clear a); intro a he)
        first | (refine qy he (y_ld rfl Try.underlying46 rfl) ?_; clear he; (try clear a); intro a he) | (refine qy he (y_ldE rfl Try.underlying46 rfl) ?_; clear he; (try clear a); intro a he)
        refine qy he (y_move rfl) ?_; clear he; (try clear a); intro a he
        refine qy he (y_ix (m := i) rfl rfl Try.underlying46 ti23 rfl hRl (by simp; omega)) ?_; clear he; (try clear a); intro a he
        refine qy he (y_ldE rfl Try.underlying23 rfl hRl (map_get hv) rfl) ?_; clear he; (try clear a); intro a he
        refine qy he (y_move rfl) ?_; clear he; (try clear a); intro a he
        first | (refine qy he (y_nilCheck rfl) ?_; clear he; (try clear a); intro a he) | (refine qy he (y_nilE rfl) ?_; clear he; (try clear a); intro a he)
        first | (refine qy he (y_fieldAddr rfl (FO.of (off := 0) Try.underlying48 rfl rfl ti46 (by decide))) ?_; clear he; (try clear a); intro a he) | (refine qy he (y_faE rfl (FO.of (off := 0) Try.underlying48 rfl rfl ti46 (by decide))) ?_; clear he; (try clear a); intro a he)
        first | (refine qy he (y_ld rfl Try.underlying46 rfl) ?_; clear he; (try clear a); intro a he) | (refine qy he (y_ldE rfl Try.underlying46 rfl) ?_; clear he; (try clear a); intro a he)
        refine qy he (y_move rfl) ?_; clear he; (try clear a); intro a he
        refine qy he (y_ix (m := i) rfl rfl Try.underlying46 ti23 rfl hRl (by simp; omega)) ?_; clear he; (try clear a); intro a he
        refine qy he (y_ldE rfl Try.underlying23 rfl hRl (map_get hv) rfl) ?_; clear he; (try clear a); intro a he
        refine qy he (y_cap rfl Try.underlying23) ?_; clear he; (try clear a); intro a he
        refine qy he (y_sliceA (lo := 0) (hi := 0) rfl Try.underlying23 ti29 (.inl ⟨rfl, rfl⟩) (.inr ⟨_, rfl, rfl⟩) (by decide) (by decide)) ?_; clear he; (try clear a); intro a he
        refine qy he (y_assign rfl) ?_; clear he; (try clear a); intro a he
        refine QL_nil he ?_; clear he hs; intro a w hs
        refine hK32 _ _ ?_; clear hK32
        refine W_seq fun K33 hK33 => ?_
        refine W_region ?_
        refine sy hs (y_assign rfl) ?_; clear hs; (try clear a w); intro a w hs
        refine RL_nil ?_
        refine hK33 _ _ ?_; clear hK33
        refine W_block fun Qe34 hB34 hO34 => ?_
        refine W_loop (fun (_ : Nat) a w => St 101 w0 f0 (.blk b (.cells #[cutv lv 1 lo lr.length, cutv wv 1 lo' wr.length, .int .i64 held, .bool false] 48 (0, 0)) :: .row lv 23 1 lr :: (Ls ++ L)) [(0, .pointer (some ⟨b, 0, none⟩)), (1, .func (.func 30) #[] #[]), (8, .int .i64 i), (9, .slice none 0 0), (10, .int .i64 0)] a w) (fun _ => 0) 0
          (hs.sub ⟨rfl, rfl, rfl, rfl, rfl, trivial⟩) ?_
        clear hs; rintro k a w hs K' hK'
        refine W_seq fun K35 hK35 => ?_
        refine W_seq fun K36 hK36 => ?_
        refine W_region ?_
        refine sy hs (y_move rfl) ?_; clear hs; (try clear a w); intro a w hs
        refine sy hs (y_move rfl) ?_; clear hs; (try clear a w); intro a w hs
        refine sy hs (y_len rfl Try.underlying23) ?_; clear hs; (try clear a w); intro a w hs
        refine sy hs (y_lss rfl rfl) ?_; clear hs; (try clear a w); intro a w hs
        refine RL_nil ?_
        refine hK36 _ _ ?_; clear hK36
        refine W_condF hs rfl ?_
        refine W_exit ?_
        refine hB34 _ _ ?_
        refine hK30 _ _ ?_; clear hK30
        refine W_region ?_
        refine sy hs (y_move rfl) ?_; clear hs; (try clear a w); intro a w hs
        refine sy hs (y_add rfl rfl (wr_i64 (by omega))) ?_; clear hs; (try clear a w); intro a w hs
        refine sy hs (y_assign rfl) ?_; clear hs; (try clear a w); intro a w hs
        refine RL_nil ?_
        exact hK (i + 1) _ _ (by omega) ⟨by omega, hs.sub ⟨rfl, rfl, rfl, trivial⟩⟩
      · obtain ⟨g, m, c, cur, rfl, hmc, hcm, hcs, rfl⟩ : ∃ g m c cur, v = .slice (some ⟨g, 0, none⟩) m c ∧ m ≤ c ∧ c ≤ maxLen ∧ cur.size = c * 2 ∧ x = .blk g (.cells cur 29 (0, 0)) := by
          rcases hsl with ⟨h, _⟩ | h
          · exact absurd h hnil
          · exact h
        replace hmk := hmk (by omega) g cur rfl
        simp only [maxLen] at hcm
        have hmem : Ent.blk g (.cells cur 29 (0, 0)) ∈ Ent.blk b (.cells #[cutv lv 1 lo lr.length, cutv wv 1 lo' wr.length, .int .i64 held, .bool false] 48 (0, 0)) :: .row lv 23 1 lr :: (Ls ++ L) := .tail _ (.tail _ (List.mem_append_left _ (List.mem_of_getElem? hx)))
        refine W_skip ?_
        refine hK28 _ _ ?_; clear hK28
        refine W_seq fun K37 hK37 => ?_
        refine W_block fun Qe38 hB38 hO38 => ?_
        refine W_seq fun K39 hK39 => ?_
        refine W_draw hs mixed (by kernel_rfl) ?_; intro a he
        refine qy he (y_move rfl) ?_; clear he; (try clear a); intro a he
        first | (refine qy he (y_nilCheck rfl) ?_; clear he; (try clear a); intro a he) | (refine qy he (y_nilE rfl) ?_; clear he; (try clear a); intro a he)
        first | (refine qy he (y_fieldAddr rfl (FO.of (off := 0) Try.underlying48 rfl rfl ti46 (by decide))) ?_; clear he; (try clear a); intro a he) | (refine qy he (y_faE rfl (FO.of (off := 0) Try.underlying48 rfl rfl ti46 (by decide))) ?_; clear he; (try clear a); intro a he)
        first | (refine qy he (y_ld rfl Try.underlying46 rfl) ?_; clear he; (try clear a); intro a he) | (refine qy he (y_ldE rfl Try.underlying46 rfl) ?_; clear he; (try clear a); intro a he)
        refine qy he (y_move rfl) ?_; clear he; (try clear a); intro a he
        refine qy he (y_ix (m := i) rfl rfl Try.underlying46 ti23 rfl hRl (by simp; omega)) ?_; clear he; (try clear a); intro a he
        refine qy he (y_ldE rfl Try.underlying23 rfl hRl (map_get hv) rfl) ?_; clear he; (try clear a); intro a he
        refine qy he (y_move rfl) ?_; clear he; (try clear a); intro a he
        first | (refine qy he (y_nilCheck rfl) ?_; clear he; (try clear a); intro a he) | (refine qy he (y_nilE rfl) ?_; clear he; (try clear a); intro a he)
        first | (refine qy he (y_fieldAddr rfl (FO.of (off := 0) Try.underlying48 rfl rfl ti46 (by decide))) ?_; clear he; (try clear a); intro a he) | (refine qy he (y_faE rfl (FO.of (off := 0) Try.underlying48 rfl rfl ti46 (by decide))) ?_; clear he; (try clear a); intro a he)
        first | (refine qy he (y_ld rfl Try.underlying46 rfl) ?_; clear he; (try clear a); intro a he) | (refine qy he (y_ldE rfl Try.underlying46 rfl) ?_; clear he; (try clear a); intro a he)
        refine qy he (y_move rfl) ?_; clear he; (try clear a); intro a he
        refine qy he (y_ix (m := i) rfl rfl Try.underlying46 ti23 rfl hRl (by simp; omega)) ?_; clear he; (try clear a); intro a he
        refine qy he (y_ldE rfl Try.underlying23 rfl hRl (map_get hv) rfl) ?_; clear he; (try clear a); intro a he
        refine qy he (y_cap rfl Try.underlying23) ?_; clear he; (try clear a); intro a he
        refine qy he (y_sliceA (lo := 0) (hi := c) rfl Try.underlying23 ti29 (.inl ⟨rfl, rfl⟩) (.inr ⟨_, rfl, rfl⟩) (by omega) (by omega)) ?_; clear he; (try clear a); intro a he
        refine qy he (y_assign rfl) ?_; clear he; (try clear a); intro a he
        refine QL_nil he ?_; clear he hs; intro a w hs
        refine hK39 _ _ ?_; clear hK39
        refine W_seq fun K40 hK40 => ?_
        refine W_region ?_
        refine sy hs (y_assign rfl) ?_; clear hs; (try clear a w); intro a w hs
        refine RL_nil ?_
        refine hK40 _ _ ?_; clear hK40
        refine W_block fun Qe41 hB41 hO41 => ?_
        rw [cutv_full] at hs
        refine W_loop (fun (k : Nat) a w => k ≤ c ∧ St 101 w0 f0 (.blk b (.cells #[cutv lv 1 lo lr.length, cutv wv 1 lo' wr.length, .int .i64 held, .bool false] 48 (0, 0)) :: .row lv 23 1 lr :: (Ls ++ L)) [(0, .pointer (some ⟨b, 0, none⟩)), (1, .func (.func 30) #[] #[]), (8, .int .i64 i), (9, .slice (some ⟨g, 0, none⟩) c c), (10, .int .i64 k)] a w) (fun k => c - k) 0
          ⟨by omega, hs.sub ⟨rfl, rfl, rfl, rfl, rfl, trivial⟩⟩ ?_
        clear hs; rintro k a w ⟨hk, hs⟩ K' hK'
        refine W_seq fun K42 hK42 => ?_
        refine W_seq fun K43 hK43 => ?_
        refine W_region ?_
        refine sy hs (y_move rfl) ?_; clear hs; (try clear a w); intro a w hs
        refine sy hs (y_move rfl) ?_; clear hs; (try clear a w); intro a w hs
        refine sy hs (y_len rfl Try.underlying23) ?_; clear hs; (try clear a w); intro a w hs
        refine sy hs (y_lss rfl rfl) ?_; clear hs; (try clear a w); intro a w hs
        refine RL_nil ?_
        refine hK43 _ _ ?_; clear hK43
        first | refine W_condP hs rfl (fun hkl => ?_) (fun hkl => ?_) | refine W_cond hs rfl (fun hkl => ?_) (fun hkl => ?_)
        · have hkl' : k < c := by
            have : ((k : Nat) : Int) < ((c : Nat) : Int) := by simpa using hkl
            omega
          obtain ⟨hm1, hm2⟩ := hmk k (by omega)
          have hcells : ∀ (j : Nat) (u : Value), [Value.string (mkA i k).Name, .string (mkA i k).Value][j]? = some u → Cell f0 (.blk b (.cells #[cutv lv 1 lo lr.length, cutv wv 1 lo' wr.length, .int .i64 held, .bool false] 48 (0, 0)) :: .row lv 23 1 lr :: (Ls ++ L)) g (0 + k * 2 + j) u := fun j u hj => by
            match j, hj with
            | 0, hj => cases hj; exact Cell.blk hmem (by rw [← hm1]; congr 1; omega)
            | 1, hj => cases hj; exact Cell.blk hmem (by rw [← hm2]; congr 1; omega)
            | j + 2, hj => simp at hj
          refine W_skip ?_
          refine hK42 _ _ ?_; clear hK42
          refine W_seq fun K44 hK44 => ?_
          refine W_block fun Qe45 hB45 hO45 => ?_
          refine W_seq fun K46 hK46 => ?_
          refine W_draw hs mixed (by kernel_rfl) ?_; intro a he
          refine qy he (y_move rfl) ?_; clear he; (try clear a); intro a he
          refine qy he (y_move rfl) ?_; clear he; (try clear a); intro a he
          refine qy he (y_ixA (j := k) rfl rfl Try.underlying23 ti29 rfl hkl') ?_; clear he; (try clear a); intro a he
          refine qy he (y_loadAgg rfl hcells Try.underlying29 rfl ti29 rfl) ?_; clear he; (try clear a); intro a he
          refine qy he (y_move rfl) ?_; clear he; (try clear a); intro a he
          refine qy he (y_move rfl) ?_; clear he; (try clear a); intro a he
          refine qy he (y_move rfl) ?_; clear he; (try clear a); intro a he
          refine qy he (y_call rfl has30 rfl (law4_attr_ok 0 (attr_some i k))) ?_; clear he; (try clear a); intro a he
          refine qy he (y_stneq rfl rfl Try.underlying29 (by kernel_rfl) (by kernel_rfl) (fun w => (eqF_str rfl Try.underlying9 rfl rfl (eqF_str rfl Try.underlying9 rfl rfl eqF_nil)))) ?_; clear he; (try clear a); intro a he
          refine QL_nil he ?_; clear he hs; intro a w hs
          refine hK46 _ _ ?_; clear hK46
          rw [decide_eq_true (rfl : (mkA i k).Name = (mkA i k).Name), decide_eq_true (rfl : (mkA i k).Value = (mkA i k).Value)] at hs
          refine W_condF hs rfl ?_
          refine W_skip ?_
          refine hK44 _ _ ?_; clear hK44
          refine W_region ?_
          refine sy hs (y_move rfl) ?_; clear hs; (try clear a w); intro a w hs
          refine sy hs (y_add rfl rfl (wr_i64 (by omega))) ?_; clear hs; (try clear a w); intro a w hs
          refine sy hs (y_assign rfl) ?_; clear hs; (try clear a w); intro a w hs
          refine RL_nil ?_
          exact hK' (k + 1) _ _ (by omega) ⟨by omega, hs.sub ⟨rfl, rfl, rfl, rfl, rfl, trivial⟩⟩
        · refine W_exit ?_
          refine hB41 _ _ ?_
          refine hK37 _ _ ?_; clear hK37
          refine W_region ?_
          refine sy hs (y_move rfl) ?_; clear hs; (try clear a w); intro a w hs
          refine sy hs (y_add rfl rfl (wr_i64 (by omega))) ?_; clear hs; (try clear a w); intro a w hs
          refine sy hs (y_assign rfl) ?_; clear hs; (try clear a w); intro a w hs
          refine RL_nil ?_
          exact hK (i + 1) _ _ (by omega) ⟨by omega, hs.sub ⟨rfl, rfl, rfl, trivial⟩⟩
    · refine W_exit ?_
      refine hB27 _ _ ?_
      refine hK25 _ _ ?_; clear hK25
      refine W_seq fun K47 hK47 => ?_
      refine W_region ?_
      refine sy hs (y_move rfl) ?_; clear hs; (try clear a w); intro a w hs
      first | (refine sy hs (y_nilCheck rfl) ?_; clear hs; (try clear a w); intro a w hs) | (refine sy hs (y_nilE rfl) ?_; clear hs; (try clear a w); intro a w hs)
      first | (refine sy hs (y_fieldAddr rfl (FO.of (off := 0) Try.underlying48 rfl rfl ti46 (by decide))) ?_; clear hs; (try clear a w); intro a w hs) | (refine sy hs (y_faE rfl (FO.of (off := 0) Try.underlying48 rfl rfl ti46 (by decide))) ?_; clear hs; (try clear a w); intro a w hs)
      refine sstore 0 hs rfl rfl rfl ti46 (by first | rfl | assumption) ?_; clear hs; (try clear a w); intro a w hs; (try simp only [List.set] at hs); (try simp only [Array.setIfInBounds] at hs)
      refine RL_nil ?_
      refine hK47 _ _ ?_; clear hK47
      refine W_seq fun K48 hK48 => ?_
      refine W_region ?_
      refine sy hs (y_move rfl) ?_; clear hs; (try clear a w); intro a w hs
      first | (refine sy hs (y_nilCheck rfl) ?_; clear hs; (try clear a w); intro a w hs) | (refine sy hs (y_nilE rfl) ?_; clear hs; (try clear a w); intro a w hs)
      first | (refine sy hs (y_fieldAddr rfl (FO.of (off := 1) Try.underlying48 rfl rfl ti46 (by decide))) ?_; clear hs; (try clear a w); intro a w hs) | (refine sy hs (y_faE rfl (FO.of (off := 1) Try.underlying48 rfl rfl ti46 (by decide))) ?_; clear hs; (try clear a w); intro a w hs)
      refine sstore 0 hs rfl rfl rfl ti46 (by first | rfl | assumption) ?_; clear hs; (try clear a w); intro a w hs; (try simp only [List.set] at hs); (try simp only [Array.setIfInBounds] at hs)
      refine RL_nil ?_
      refine hK48 _ _ ?_; clear hK48
      refine W_seq fun K49 hK49 => ?_
      refine W_region ?_
      refine sy hs (y_move rfl) ?_; clear hs; (try clear a w); intro a w hs
      first | (refine sy hs (y_nilCheck rfl) ?_; clear hs; (try clear a w); intro a w hs) | (refine sy hs (y_nilE rfl) ?_; clear hs; (try clear a w); intro a w hs)
      first | (refine sy hs (y_fieldAddr rfl (FO.of (off := 2) Try.underlying48 rfl rfl ti3 (by decide))) ?_; clear hs; (try clear a w); intro a w hs) | (refine sy hs (y_faE rfl (FO.of (off := 2) Try.underlying48 rfl rfl ti3 (by decide))) ?_; clear hs; (try clear a w); intro a w hs)
      refine sstore 0 hs rfl rfl rfl ti3 (by first | rfl | assumption) ?_; clear hs; (try clear a w); intro a w hs; (try simp only [List.set] at hs); (try simp only [Array.setIfInBounds] at hs)
      refine RL_nil ?_
      refine hK49 _ _ ?_; clear hK49
      refine W_seq fun K50 hK50 => ?_
      refine W_region ?_
      refine sy hs (y_assign rfl) ?_; clear hs; (try clear a w); intro a w hs
      refine RL_nil ?_
      refine hK50 _ _ ?_; clear hK50
      refine W_ret ?_
      refine Rt_1 hs rfl rfl ?_
      exact ⟨rfl, (hs.cw.drop 2).sub (List.sublist_append_right _ _)⟩
