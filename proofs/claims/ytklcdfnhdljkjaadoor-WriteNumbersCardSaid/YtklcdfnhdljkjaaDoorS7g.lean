/-
  Walks and laws of this seat; the base is the text Base.
-/
import Derived.Test.YtklcdfnhdljkjaaDoorS7f
import Derived.Test.YtklcdfnhdljkjaaDoorRows
namespace Go.Proofs.YtklcdfnhdljkjaaDoor
open Go.RowKit Go.Sl
/-- What is known of the texts: the trie's numbers. -/
structure TexOK (l : List ByteArray) (mf : Nat → Nat) (T : Nat) (N : List Int) : Prop where
  len : l.length ≤ 1000
  len8 : 8 ≤ l.length
  sz : ∀ s ∈ l, s.size ≤ 1000000
  ev : l.length % 2 = 0
  T0 : sumB (markL l (l.length / 2)) 256 = (T : Int)
  T1 : T ≤ 256
  N0 : (numB T (markL l (l.length / 2)) 256).1 = N
  nu : ∀ p, 2 * p < l.length → ∃ key c, l[2 * p]? = some key ∧ key ≠ bs [] ∧ 1 ≤ key.size ∧ getS key 0 = some ((c : Nat) : Int) ∧ c < 256 ∧ N[c]? = some (mf p : Int) ∧ mf p < T
  inj : ∀ p q, p < q → 2 * q < l.length → mf p ≠ mf q
  k3 : ∀ k, k < 3 → ∃ key, l[2 * k]? = some key ∧ key.size = 1
  k6 : ∃ key, l[6]? = some key ∧ key.size ≠ 1
set_option maxRecDepth 20000 in
set_option maxHeartbeats 8000000 in
theorem build_ok {f : Fz} {b : Nat} {cs : Array Value} {ov : Value} {l : List ByteArray} {w0 w : World} {L : List Ent} {mf : Nat → Nat} {T : Nat} {N : List Int} (hT : TexOK l mf T N) (h0 : RS tStr f ov l) (h4 : cs[4]? = some ov) (hC : Cw w0 f (.blk b (.cells cs 83 (0, 0)) :: L) w) :
    Calls Tryd.prog 42 [.pointer (some ⟨b, 0, none⟩)].toArray w fun e w' => ∃ g tv rows Ls, e = .returned (.iface 105 (.pointer (some ⟨g, 0, none⟩))) ∧ Tri l mf T (l.length / 2) rows Ls ∧ Cw w0 f (.blk g (.cells (gcA tv T N) 127 (0, 0)) :: .row tv 122 1 rows :: (Ls ++ .blk b (.cells cs 83 (0, 0)) :: L)) w' := by
  refine enter Tryd.func42 rfl Tryd.ntmps42 (by simp) hC fun a hs => ?_
  obtain ⟨rw0, hR0, hW0⟩ := id h0
  have hlen := hW0.len
  have hl8 := hT.len8
  have hl1 := hT.len
  refine W_seq fun K1 hK1 => ?_
  refine W_region ?_
  refine sy hs (y_assign rfl) ?_; clear hs; (try clear a w); intro a w hs
  refine RL_nil ?_
  refine hK1 _ _ ?_; clear hK1
  refine W_seq fun K2 hK2 => ?_
  refine W_region ?_
  refine sy hs (y_move rfl) ?_; clear hs; (try clear a w); intro a w hs
  first | (refine sy hs (y_nilCheck rfl) ?_; clear hs; (try clear a w); intro a w hs) | (refine sy hs (y_nilE rfl) ?_; clear hs; (try clear a w); intro a w hs)
  first | (refine sy hs (y_fieldAddr rfl (FO.of (off := 4) Tryd.underlying83 rfl rfl ti47 (by decide))) ?_; clear hs; (try clear a w); intro a w hs) | (refine sy hs (y_faE rfl (FO.of (off := 4) Tryd.underlying83 rfl rfl ti47 (by decide))) ?_; clear hs; (try clear a w); intro a w hs)
  refine sy hs (y_ld rfl Tryd.underlying47 rfl (Cell.blk (.head _) h4)) ?_; clear hs; (try clear a w); intro a w hs
  refine sy hs (y_assign rfl) ?_; clear hs; (try clear a w); intro a w hs
  refine RL_nil ?_
  refine hK2 _ _ ?_; clear hK2
  refine W_seq fun K3 hK3 => ?_
  refine W_seq fun K4 hK4 => ?_
  refine W_region ?_
  refine sy hs (y_move rfl) ?_; clear hs; (try clear a w); intro a w hs
  refine sy hs (y_lenR0 hR0 rfl Tryd.underlying47) ?_; clear hs; (try clear a w); intro a w hs
  refine sy hs (y_eql rfl rfl) ?_; clear hs; (try clear a w); intro a w hs
  rw [show decide ((rw0.length : Int) = 2) = false from decide_eq_false (by omega)] at hs
  refine sy hs (y_move rfl) ?_; clear hs; (try clear a w); intro a w hs
  refine sno hs ?_; clear hs; (try clear a w); intro a w hs
  refine sno hs ?_; clear hs; (try clear a w); intro a w hs
  refine sno hs ?_; clear hs; (try clear a w); intro a w hs
  refine sno hs ?_; clear hs; (try clear a w); intro a w hs
  refine sno hs ?_; clear hs; (try clear a w); intro a w hs
  refine sy hs (y_pick rfl rfl) ?_; clear hs; (try clear a w); intro a w hs
  refine RL_nil ?_
  refine hK4 _ _ ?_; clear hK4
  refine W_condF hs rfl ?_
  refine W_skip ?_
  refine hK3 _ _ ?_; clear hK3
  refine W_seq fun K5 hK5 => ?_
  refine W_region ?_
  refine sy hs (y_assign rfl) ?_; clear hs; (try clear a w); intro a w hs
  refine RL_nil ?_
  refine hK5 _ _ ?_; clear hK5
  refine W_seq fun K6 hK6 => ?_
  refine W_seq fun K7 hK7 => ?_
  refine W_region ?_
  refine sy hs (y_assign rfl) ?_; clear hs; (try clear a w); intro a w hs
  refine RL_nil ?_
  refine hK7 _ _ ?_; clear hK7
  refine W_block fun Qe8 hB8 hO8 => ?_
  refine W_loop (fun (k : Nat) a w => k ≤ 3 ∧ St 132 w0 f (.blk b (.cells cs 83 (0, 0)) :: L) [(0, .pointer (some ⟨b, 0, none⟩)), (3, ov), (5, .int .i64 ((2 * k : Nat) : Int))] a w) (fun k => 3 - k) 0 ⟨by omega, hs.sub ⟨rfl, rfl, rfl, trivial⟩⟩ ?_
  clear hs; rintro k a w ⟨hk, hs⟩ K hK
  refine W_seq fun K9 hK9 => ?_
  refine W_seq fun K10 hK10 => ?_
  refine W_region ?_
  refine sy hs (y_move rfl) ?_; clear hs; (try clear a w); intro a w hs
  refine sy hs (y_move rfl) ?_; clear hs; (try clear a w); intro a w hs
  refine sy hs (y_lenR0 hR0 rfl Tryd.underlying47) ?_; clear hs; (try clear a w); intro a w hs
  refine sy hs (y_lss rfl rfl) ?_; clear hs; (try clear a w); intro a w hs
  refine RL_nil ?_
  refine hK10 _ _ ?_; clear hK10
  rw [show decide (((2 * k : Nat) : Int) < (rw0.length : Int)) = true from decide_eq_true (by omega)] at hs
  refine W_condT hs rfl ?_
  by_cases hk3 : k < 3
  · obtain ⟨key, hkey, hks⟩ := hT.k3 k hk3
    obtain ⟨val, hval⟩ : ∃ v, l[2 * k + 1]? = some v := ⟨_, List.getElem?_eq_getElem (by omega)⟩
    obtain ⟨r1, hr1, hrs1⟩ := hW0.get hkey
    obtain rfl : r1 = [.string key] := hrs1
    obtain ⟨r2, hr2, hrs2⟩ := hW0.get hval
    obtain rfl : r2 = [.string val] := hrs2
    refine W_skip ?_
    refine hK9 _ _ ?_; clear hK9
    refine W_seq fun K11 hK11 => ?_
    refine W_block fun Qe12 hB12 hO12 => ?_
    refine W_seq fun K13 hK13 => ?_
    refine W_seq fun K14 hK14 => ?_
    refine W_region ?_
    refine sy hs (y_move rfl) ?_; clear hs; (try clear a w); intro a w hs
    refine sy hs (y_move rfl) ?_; clear hs; (try clear a w); intro a w hs
    refine sy hs (y_indexAddr (m := 2 * k) hR0 rfl rfl rfl (by omega) Tryd.underlying47 ti9) ?_; clear hs; (try clear a w); intro a w hs
    refine sy hs (y_loadE (i := 2 * k) (j := 0) (hR0.up (L := _)) rfl hr1 rfl Tryd.underlying9 rfl) ?_; clear hs; (try clear a w); intro a w hs
    refine sy hs (y_lenS rfl Tryd.underlying9) ?_; clear hs; (try clear a w); intro a w hs
    refine sy hs (y_neq rfl rfl) ?_; clear hs; (try clear a w); intro a w hs
    refine RL_nil ?_
    refine hK14 _ _ ?_; clear hK14
    rw [show decide ((key.size : Int) ≠ 1) = false from decide_eq_false (by omega)] at hs
    refine W_condF hs rfl ?_
    refine W_skip ?_
    refine hK13 _ _ ?_; clear hK13
    refine W_seq fun K15 hK15 => ?_
    refine W_region ?_
    refine sy hs (y_move rfl) ?_; clear hs; (try clear a w); intro a w hs
    refine sy hs (y_move rfl) ?_; clear hs; (try clear a w); intro a w hs
    refine sy hs (y_add rfl rfl (wr_i64 (by omega))) ?_; clear hs; (try clear a w); intro a w hs
    refine sy hs (y_indexAddr (m := 2 * k + 1) hR0 rfl rfl rfl (by omega) Tryd.underlying47 ti9) ?_; clear hs; (try clear a w); intro a w hs
    refine sy hs (y_loadE (i := 2 * k + 1) (j := 0) (hR0.up (L := _)) rfl hr2 rfl Tryd.underlying9 rfl) ?_; clear hs; (try clear a w); intro a w hs
    refine sy hs (y_lenS rfl Tryd.underlying9) ?_; clear hs; (try clear a w); intro a w hs
    refine sy hs (y_neq rfl rfl) ?_; clear hs; (try clear a w); intro a w hs
    refine RL_nil ?_
    refine hK15 _ _ ?_; clear hK15
    first | refine W_condP hs rfl (fun hv => ?_) (fun hv => ?_) | refine W_cond hs rfl (fun hv => ?_) (fun hv => ?_)
    · refine W_region ?_
      refine sy hs (y_assign rfl) ?_; clear hs; (try clear a w); intro a w hs
      refine RL_nil ?_
      refine hK11 _ _ ?_; clear hK11
      refine W_region ?_
      refine sy hs (y_move rfl) ?_; clear hs; (try clear a w); intro a w hs
      refine sy hs (y_add rfl rfl (wr_i64 (by omega))) ?_; clear hs; (try clear a w); intro a w hs
      refine sy hs (y_assign rfl) ?_; clear hs; (try clear a w); intro a w hs
      refine RL_nil ?_
      exact hK (k + 1) _ _ (by omega) ⟨by omega, hs.sub ⟨rfl, rfl, rfl, trivial⟩⟩
    · refine W_skip ?_
      refine hK11 _ _ ?_; clear hK11
      refine W_region ?_
      refine sy hs (y_move rfl) ?_; clear hs; (try clear a w); intro a w hs
      refine sy hs (y_add rfl rfl (wr_i64 (by omega))) ?_; clear hs; (try clear a w); intro a w hs
      refine sy hs (y_assign rfl) ?_; clear hs; (try clear a w); intro a w hs
      refine RL_nil ?_
      exact hK (k + 1) _ _ (by omega) ⟨by omega, hs.sub ⟨rfl, rfl, rfl, trivial⟩⟩
  · obtain rfl : k = 3 := by omega
    obtain ⟨key, hkey, hks⟩ := hT.k6
    obtain ⟨r1, hr1, hrs1⟩ := hW0.get hkey
    obtain rfl : r1 = [.string key] := hrs1
    refine W_skip ?_
    refine hK9 _ _ ?_; clear hK9
    refine W_seq fun K16 hK16 => ?_
    refine W_block fun Qe17 hB17 hO17 => ?_
    refine W_seq fun K18 hK18 => ?_
    refine W_seq fun K19 hK19 => ?_
    refine W_region ?_
    refine sy hs (y_move rfl) ?_; clear hs; (try clear a w); intro a w hs
    refine sy hs (y_move rfl) ?_; clear hs; (try clear a w); intro a w hs
    refine sy hs (y_indexAddr (m := 6) hR0 rfl rfl rfl (by omega) Tryd.underlying47 ti9) ?_; clear hs; (try clear a w); intro a w hs
    refine sy hs (y_loadE (i := 6) (j := 0) (hR0.up (L := _)) rfl hr1 rfl Tryd.underlying9 rfl) ?_; clear hs; (try clear a w); intro a w hs
    refine sy hs (y_lenS rfl Tryd.underlying9) ?_; clear hs; (try clear a w); intro a w hs
    refine sy hs (y_neq rfl rfl) ?_; clear hs; (try clear a w); intro a w hs
    refine RL_nil ?_
    refine hK19 _ _ ?_; clear hK19
    rw [show decide ((key.size : Int) ≠ 1) = true from decide_eq_true (by omega)] at hs
    refine W_condT hs rfl ?_
    refine W_seq fun K20 hK20 => ?_
    refine W_region ?_
    refine sy hs (y_move rfl) ?_; clear hs; (try clear a w); intro a w hs
    refine RL_callW (R := fun v f' L' => ∃ g tv rows Ls, v = .pointer (some ⟨g, 0, none⟩) ∧ f' = f ∧ Tri l mf T (l.length / 2) rows Ls ∧ L' = .blk g (.cells (gcA tv T N) 127 (0, 0)) :: .row tv 122 1 rows :: (Ls ++ .blk b (.cells cs 83 (0, 0)) :: L)) hs rfl has49 rfl (fun w hw => (mkGen_ok h0 hT.len hT.sz hT.ev hT.T0 hT.T1 hT.N0 hT.nu hT.inj hw).mono fun e w' ⟨g, tv, rows, Ls, q1, q2, q3⟩ => ⟨_, f, _, q1, .refl _, q3, g, tv, rows, Ls, rfl, rfl, q2, rfl⟩) ?_; clear hs; (try clear a w); rintro _ _ _ a w _ ⟨g, tv, rows, Ls, rfl, rfl, hTr, rfl⟩ hs
    refine sy hs (y_mkIface rfl Tryd.underlying105 rfl) ?_; clear hs; (try clear a w); intro a w hs
    refine sy hs (y_assign rfl) ?_; clear hs; (try clear a w); intro a w hs
    refine RL_nil ?_
    refine hK20 _ _ ?_; clear hK20
    refine W_ret ?_
    refine Rt_1 hs rfl rfl ?_
    exact ⟨g, tv, rows, Ls, rfl, hTr, hs.cw⟩
