/-
  Walks and laws of this seat; the base is the text Base.
-/
import Derived.Test.YtklcdfnhdljkjaaDoorS7l
import Derived.Test.YtklcdfnhdljkjaaDoorRows
namespace Go.Proofs.YtklcdfnhdljkjaaDoor
open Go.RowKit Go.Sl
theorem pfx_nil {s : ByteArray} : pfx s (bs []) = true := by
  have : s.extract 0 0 = bs [] := by
    simp; rfl
  rw [pfx, show (bs []).size = 0 from rfl, this]; simp
abbrev leafA (val : ByteArray) (pr : Int) : Array Value := node val pr (bs []) (.pointer none) (.slice none 0 0)
/-- What lookup says of a text that begins with a byte of the table. -/
def lkV (s rest val : ByteArray) : Value := if pfx (s.extract 1 s.size) rest = true then .tuple #[.string val, .int .i64 (1 + (rest.size : Int)), .bool true] else .tuple #[.string (bs []), .int .i64 0, .bool false]
/-- Where lookup stands. -/
def Sta (LX : List Ent) (g n1 : Nat) (s rest val : ByteArray) (pr : Int) (k x : Nat) (s' : ByteArray) (nn : Int) : Prop :=
  (k = 0 ∧ x = g ∧ s' = s ∧ nn = 0) ∨
  (k = 1 ∧ x = n1 ∧ s' = s.extract 1 s.size ∧ nn = 1 ∧ rest ≠ bs [] ∧ ∃ n2, Ent.blk n1 (.cells (node (bs []) 0 rest (.pointer (some ⟨n2, 0, none⟩)) (.slice none 0 0)) 125 (0, 0)) ∈ LX ∧ Ent.blk n2 (.cells (leafA val pr) 125 (0, 0)) ∈ LX) ∨
  (k = 2 ∧ nn = 1 + (rest.size : Int) ∧ pfx (s.extract 1 s.size) rest = true ∧ Ent.blk x (.cells (leafA val pr) 125 (0, 0)) ∈ LX)
theorem not_pfx {rest : ByteArray} (h : rest ≠ bs []) : pfx (bs []) rest = false := by
  cases hp : pfx (bs []) rest with
  | false => rfl
  | true =>
    obtain ⟨h1, h2⟩ := pfx_true hp
    exact absurd (ByteArray.ext (Array.eq_empty_of_size_eq_zero (Nat.le_zero.1 h1))) h
set_option maxRecDepth 20000 in
theorem lookup_end {f : Fz} {LX : List Ent} {g : Nat} {tv : Value} {T : Nat} {N : List Int} {ig : Bool} (hg : Ent.blk g (.cells (gcA tv T N) 127 (0, 0)) ∈ LX) :
    GivesL Tryd.prog 106 [.pointer (some ⟨g, 0, none⟩), .string (bs []), .bool ig] f LX (.tuple #[.string (bs []), .int .i64 0, .bool false]) := by
  intro w0 L w hC
  have hgX : Ent.blk g (.cells (gcA tv T N) 127 (0, 0)) ∈ LX ++ L := List.mem_append_left _ hg
  refine enter Tryd.func106 rfl Tryd.ntmps106 (by simp) hC fun a hs => ?_
  refine W_seq fun K1 hK1 => ?_
  refine W_region ?_
  refine sy hs (y_assign rfl) ?_; clear hs; (try clear a w); intro a w hs
  refine sy hs (y_assign rfl) ?_; clear hs; (try clear a w); intro a w hs
  refine sy hs (y_assign rfl) ?_; clear hs; (try clear a w); intro a w hs
  refine RL_nil ?_
  refine hK1 _ _ ?_; clear hK1
  refine W_seq fun K2 hK2 => ?_
  refine W_region ?_
  refine sy hs (y_assign rfl) ?_; clear hs; (try clear a w); intro a w hs
  refine RL_nil ?_
  refine hK2 _ _ ?_; clear hK2
  refine W_seq fun K3 hK3 => ?_
  refine W_region ?_
  refine sy hs (y_move rfl) ?_; clear hs; (try clear a w); intro a w hs
  first | (refine sy hs (y_nilCheck rfl) ?_; clear hs; (try clear a w); intro a w hs) | (refine sy hs (y_nilE rfl) ?_; clear hs; (try clear a w); intro a w hs)
  first | (refine sy hs (y_fieldAddr rfl (FO.of (off := 0) Tryd.underlying127 rfl rfl ti125 (by decide))) ?_; clear hs; (try clear a w); intro a w hs) | (refine sy hs (y_faE rfl (FO.of (off := 0) Tryd.underlying127 rfl rfl ti125 (by decide))) ?_; clear hs; (try clear a w); intro a w hs)
  refine sy hs (y_assign rfl) ?_; clear hs; (try clear a w); intro a w hs
  refine RL_nil ?_
  refine hK3 _ _ ?_; clear hK3
  refine W_seq fun K4 hK4 => ?_
  refine W_region ?_
  refine sy hs (y_assign rfl) ?_; clear hs; (try clear a w); intro a w hs
  refine RL_nil ?_
  refine hK4 _ _ ?_; clear hK4
  refine W_seq fun K5 hK5 => ?_
  refine W_block fun Qe6 hB6 hO6 => ?_
  refine W_loop (fun (_ : Unit) a w => St 107 w0 f (LX ++ L) [(0, .pointer (some ⟨g, 0, none⟩)), (1, .string (bs [])), (6, .string (bs [])), (7, .int .i64 0), (8, .bool false), (9, .int .i64 0), (10, .pointer (some ⟨g, 0, none⟩))] a w) (fun _ => 0) () (hs.sub ⟨rfl, rfl, rfl, rfl, rfl, rfl, rfl, trivial⟩) ?_
  clear hs; rintro - a w hs K -
  refine W_seq fun K7 hK7 => ?_
  refine W_seq fun K8 hK8 => ?_
  refine W_region ?_
  refine sy hs (y_move rfl) ?_; clear hs; (try clear a w); intro a w hs
  refine sy hs (y_pnilN rfl rfl Tryd.underlying122) ?_; clear hs; (try clear a w); intro a w hs
  refine RL_nil ?_
  refine hK8 _ _ ?_; clear hK8
  refine W_condT hs rfl ?_
  refine W_skip ?_
  refine hK7 _ _ ?_; clear hK7
  refine W_block fun Qe9 hB9 hO9 => ?_
  refine W_seq fun K10 hK10 => ?_
  refine W_seq fun K11 hK11 => ?_
  refine W_region ?_
  refine sy hs (y_move rfl) ?_; clear hs; (try clear a w); intro a w hs
  first | (refine sy hs (y_nilCheck rfl) ?_; clear hs; (try clear a w); intro a w hs) | (refine sy hs (y_nilE rfl) ?_; clear hs; (try clear a w); intro a w hs)
  first | (refine sy hs (y_fieldAddr rfl (FO.of (off := 1) Tryd.underlying125 rfl rfl ti3 (by decide))) ?_; clear hs; (try clear a w); intro a w hs) | (refine sy hs (y_faE rfl (FO.of (off := 1) Tryd.underlying125 rfl rfl ti3 (by decide))) ?_; clear hs; (try clear a w); intro a w hs)
  refine sy hs (y_ld rfl Tryd.underlying3 rfl (Cell.blk hgX gcA_1)) ?_; clear hs; (try clear a w); intro a w hs
  refine sy hs (y_move rfl) ?_; clear hs; (try clear a w); intro a w hs
  refine sy hs (y_gtr rfl rfl) ?_; clear hs; (try clear a w); intro a w hs
  rw [show decide ((0 : Int) < 0) = false from rfl] at hs
  refine sy hs (y_move rfl) ?_; clear hs; (try clear a w); intro a w hs
  refine sno hs ?_; clear hs; (try clear a w); intro a w hs
  refine sno hs ?_; clear hs; (try clear a w); intro a w hs
  refine sun hs ?_; clear hs; (try clear a w); intro a w hs
  refine sun hs ?_; clear hs; (try clear a w); intro a w hs
  refine sun hs ?_; clear hs; (try clear a w); intro a w hs
  refine sun hs ?_; clear hs; (try clear a w); intro a w hs
  refine sun hs ?_; clear hs; (try clear a w); intro a w hs
  refine sno hs ?_; clear hs; (try clear a w); intro a w hs
  refine sno hs ?_; clear hs; (try clear a w); intro a w hs
  refine sy hs (y_pick rfl rfl) ?_; clear hs; (try clear a w); intro a w hs
  refine RL_nil ?_
  refine hK11 _ _ ?_; clear hK11
  refine W_condF hs rfl ?_
  refine W_skip ?_
  refine hK10 _ _ ?_; clear hK10
  refine W_seq fun K12 hK12 => ?_
  refine W_seq fun K13 hK13 => ?_
  refine W_region ?_
  refine sy hs (y_move rfl) ?_; clear hs; (try clear a w); intro a w hs
  refine sy hs (y_seql rfl rfl) ?_; clear hs; (try clear a w); intro a w hs
  refine RL_nil ?_
  refine hK13 _ _ ?_; clear hK13
  rw [decide_eq_true (show bs [] = ⟨#[]⟩ from rfl)] at hs
  refine W_condT hs rfl ?_
  refine W_exit ?_
  refine hO9 _ rfl _ _ ?_
  refine hB6 _ _ ?_
  refine hK5 _ _ ?_; clear hK5
  refine W_ret ?_
  refine Rt_3 hs rfl rfl rfl rfl ?_
  exact ⟨rfl, hs.cw⟩
set_option maxRecDepth 20000 in
set_option maxHeartbeats 8000000 in
theorem lookup_ok {f : Fz} {LX : List Ent} {g n1 : Nat} {tv : Value} {T : Nat} {N : List Int} {rows : List (List Value)} {s rest val : ByteArray} {c m : Nat} {pr : Int} (hg : Ent.blk g (.cells (gcA tv T N) 127 (0, 0)) ∈ LX) (hrw : Ent.row tv 122 1 rows ∈ LX) (hc : getS s 0 = some (c : Int)) (hc2 : c < 256) (hN : N[c]? = some (m : Int)) (hmT : m < T) (hT : T ≤ 256)
    (hr : rows[m]? = some [.pointer (some ⟨n1, 0, none⟩)]) (hA : NodeAt LX n1 rest val pr) (hpr : 0 < pr) (hsz : rest.size ≤ 1000000) :
    GivesL Tryd.prog 106 [.pointer (some ⟨g, 0, none⟩), .string s, .bool false] f LX (lkV s rest val) := by
  intro w0 L w hC
  have hgX : Ent.blk g (.cells (gcA tv T N) 127 (0, 0)) ∈ LX ++ L := List.mem_append_left _ hg
  have hrX : Ent.row tv 122 1 rows ∈ LX ++ L := List.mem_append_left _ hrw
  have hmr : m < rows.length := (List.getElem?_eq_some_iff.1 hr).1
  have hs1 : 1 ≤ s.size := by
    have := (getS_some hc).1
    omega
  have hs0 : ¬ s = ⟨#[]⟩ := fun h => by rw [h] at hs1; exact absurd hs1 (by decide)
  obtain ⟨ad, cap, htv⟩ : ∃ ad cap, tv = .slice (some ad) rows.length cap := by
    obtain ⟨ao, cap, h, _, hn, _⟩ := (Rd.ofOwn hrX hC).val
    cases ao with
    | none => rw [hn rfl] at hmr; simp at hmr
    | some ad => exact ⟨ad, cap, h⟩
  refine enter Tryd.func106 rfl Tryd.ntmps106 (by simp) hC fun a hs => ?_
  refine W_seq fun K1 hK1 => ?_
  refine W_region ?_
  refine sy hs (y_assign rfl) ?_; clear hs; (try clear a w); intro a w hs
  refine sy hs (y_assign rfl) ?_; clear hs; (try clear a w); intro a w hs
  refine sy hs (y_assign rfl) ?_; clear hs; (try clear a w); intro a w hs
  refine RL_nil ?_
  refine hK1 _ _ ?_; clear hK1
  refine W_seq fun K2 hK2 => ?_
  refine W_region ?_
  refine sy hs (y_assign rfl) ?_; clear hs; (try clear a w); intro a w hs
  refine RL_nil ?_
  refine hK2 _ _ ?_; clear hK2
  refine W_seq fun K3 hK3 => ?_
  refine W_region ?_
  refine sy hs (y_move rfl) ?_; clear hs; (try clear a w); intro a w hs
  first | (refine sy hs (y_nilCheck rfl) ?_; clear hs; (try clear a w); intro a w hs) | (refine sy hs (y_nilE rfl) ?_; clear hs; (try clear a w); intro a w hs)
  first | (refine sy hs (y_fieldAddr rfl (FO.of (off := 0) Tryd.underlying127 rfl rfl ti125 (by decide))) ?_; clear hs; (try clear a w); intro a w hs) | (refine sy hs (y_faE rfl (FO.of (off := 0) Tryd.underlying127 rfl rfl ti125 (by decide))) ?_; clear hs; (try clear a w); intro a w hs)
  refine sy hs (y_assign rfl) ?_; clear hs; (try clear a w); intro a w hs
  refine RL_nil ?_
  refine hK3 _ _ ?_; clear hK3
  refine W_seq fun K4 hK4 => ?_
  refine W_region ?_
  refine sy hs (y_assign rfl) ?_; clear hs; (try clear a w); intro a w hs
  refine RL_nil ?_
  refine hK4 _ _ ?_; clear hK4
  refine W_seq fun K5 hK5 => ?_
  refine W_block fun Qe6 hB6 hO6 => ?_
  refine W_loop (fun (k : Nat) a w => ∃ x s' nn, Sta LX g n1 s rest val pr k x s' nn ∧ St 107 w0 f (LX ++ L) [(0, .pointer (some ⟨g, 0, none⟩)), (1, .string s'), (2, .bool false), (6, .string (bs [])), (7, .int .i64 0), (8, .bool false), (9, .int .i64 0), (10, .pointer (some ⟨x, 0, none⟩)), (11, .int .i64 nn)] a w) (fun k => 3 - k) 0 ⟨_, _, _, .inl ⟨rfl, rfl, rfl, rfl⟩, hs.sub ⟨rfl, rfl, rfl, rfl, rfl, rfl, rfl, rfl, rfl, trivial⟩⟩ ?_
  clear hs; rintro k a w ⟨x, s', nn, hS, hs⟩ K hK
  by_cases hk0 : k = 0
  · obtain ⟨rfl, rfl, rfl⟩ : x = g ∧ s' = s ∧ nn = 0 := by
      rcases hS with ⟨_, h⟩ | ⟨h, _⟩ | ⟨h, _⟩
      · exact h
      · omega
      · omega
    refine W_seq fun K7 hK7 => ?_
    refine W_seq fun K8 hK8 => ?_
    refine W_region ?_
    refine sy hs (y_move rfl) ?_; clear hs; (try clear a w); intro a w hs
    refine sy hs (y_pnilN rfl rfl Tryd.underlying122) ?_; clear hs; (try clear a w); intro a w hs
    refine RL_nil ?_
    refine hK8 _ _ ?_; clear hK8
    refine W_condT hs rfl ?_
    refine W_skip ?_
    refine hK7 _ _ ?_; clear hK7
    refine W_block fun Qe9 hB9 hO9 => ?_
    refine W_seq fun K10 hK10 => ?_
    refine W_seq fun K11 hK11 => ?_
    refine W_region ?_
    refine sy hs (y_move rfl) ?_; clear hs; (try clear a w); intro a w hs
    first | (refine sy hs (y_nilCheck rfl) ?_; clear hs; (try clear a w); intro a w hs) | (refine sy hs (y_nilE rfl) ?_; clear hs; (try clear a w); intro a w hs)
    first | (refine sy hs (y_fieldAddr rfl (FO.of (off := 1) Tryd.underlying125 rfl rfl ti3 (by decide))) ?_; clear hs; (try clear a w); intro a w hs) | (refine sy hs (y_faE rfl (FO.of (off := 1) Tryd.underlying125 rfl rfl ti3 (by decide))) ?_; clear hs; (try clear a w); intro a w hs)
    refine sy hs (y_ld rfl Tryd.underlying3 rfl (Cell.blk hgX gcA_1)) ?_; clear hs; (try clear a w); intro a w hs
    refine sy hs (y_move rfl) ?_; clear hs; (try clear a w); intro a w hs
    refine sy hs (y_gtr rfl rfl) ?_; clear hs; (try clear a w); intro a w hs
    rw [show decide ((0 : Int) < 0) = false from rfl] at hs
    refine sy hs (y_move rfl) ?_; clear hs; (try clear a w); intro a w hs
    refine sno hs ?_; clear hs; (try clear a w); intro a w hs
    refine sno hs ?_; clear hs; (try clear a w); intro a w hs
    refine sun hs ?_; clear hs; (try clear a w); intro a w hs
    refine sun hs ?_; clear hs; (try clear a w); intro a w hs
    refine sun hs ?_; clear hs; (try clear a w); intro a w hs
    refine sun hs ?_; clear hs; (try clear a w); intro a w hs
    refine sun hs ?_; clear hs; (try clear a w); intro a w hs
    refine sno hs ?_; clear hs; (try clear a w); intro a w hs
    refine sno hs ?_; clear hs; (try clear a w); intro a w hs
    refine sy hs (y_pick rfl rfl) ?_; clear hs; (try clear a w); intro a w hs
    refine RL_nil ?_
    refine hK11 _ _ ?_; clear hK11
    refine W_condF hs rfl ?_
    refine W_skip ?_
    refine hK10 _ _ ?_; clear hK10
    refine W_seq fun K12 hK12 => ?_
    refine W_seq fun K13 hK13 => ?_
    refine W_region ?_
    refine sy hs (y_move rfl) ?_; clear hs; (try clear a w); intro a w hs
    refine sy hs (y_seql rfl rfl) ?_; clear hs; (try clear a w); intro a w hs
    refine RL_nil ?_
    refine hK13 _ _ ?_; clear hK13
    rw [decide_eq_false hs0] at hs
    refine W_condF hs rfl ?_
    refine W_skip ?_
    refine hK12 _ _ ?_; clear hK12
    refine W_seq fun K14 hK14 => ?_
    refine W_region ?_
    refine sy hs (y_move rfl) ?_; clear hs; (try clear a w); intro a w hs
    first | (refine sy hs (y_nilCheck rfl) ?_; clear hs; (try clear a w); intro a w hs) | (refine sy hs (y_nilE rfl) ?_; clear hs; (try clear a w); intro a w hs)
    first | (refine sy hs (y_fieldAddr rfl (FO.of (off := 4) Tryd.underlying125 rfl rfl ti123 (by decide))) ?_; clear hs; (try clear a w); intro a w hs) | (refine sy hs (y_faE rfl (FO.of (off := 4) Tryd.underlying125 rfl rfl ti123 (by decide))) ?_; clear hs; (try clear a w); intro a w hs)
    refine sy hs (y_ld rfl Tryd.underlying123 rfl (Cell.blk hgX (gcA_4.trans (congrArg some htv)))) ?_; clear hs; (try clear a w); intro a w hs
    refine sy hs (y_slNeq rfl Tryd.underlying123) ?_; clear hs; (try clear a w); intro a w hs
    refine RL_nil ?_
    refine hK14 _ _ ?_; clear hK14
    refine W_condT hs rfl ?_
    refine W_seq fun K15 hK15 => ?_
    refine W_draw hs mixed (by kernel_rfl) ?_; intro a he
    refine qy he (y_move rfl) ?_; clear he; (try clear a); intro a he
    refine qy he (y_move rfl) ?_; clear he; (try clear a); intro a he
    refine qy he (y_ixW rfl rfl Tryd.underlying9 hc) ?_; clear he; (try clear a); intro a he
    first | (refine qy he (y_nilCheck rfl) ?_; clear he; (try clear a); intro a he) | (refine qy he (y_nilE rfl) ?_; clear he; (try clear a); intro a he)
    first | (refine qy he (y_fieldAddr rfl (FO.of (off := 6) Tryd.underlying127 rfl rfl ti87 (by decide))) ?_; clear he; (try clear a); intro a he) | (refine qy he (y_faE rfl (FO.of (off := 6) Tryd.underlying127 rfl rfl ti87 (by decide))) ?_; clear he; (try clear a); intro a he)
    refine qy he (y_ixArr (j := c) rfl rfl Tryd.underlying87 ti5 rfl hc2) ?_; clear he; (try clear a); intro a he
    refine qy he (y_ld rfl Tryd.underlying5 rfl (Cell.blk hgX (by rw [show 0 + 6 + c * 1 = 6 + c by omega]; exact gcA_get hN))) ?_; clear he; (try clear a); intro a he
    refine qy he (y_assign rfl) ?_; clear he; (try clear a); intro a he
    refine QL_nil he ?_; clear he hs; intro a w hs
    refine hK15 _ _ ?_; clear hK15
    refine W_seq fun K16 hK16 => ?_
    refine W_seq fun K17 hK17 => ?_
    refine W_region ?_
    refine sy hs (y_move rfl) ?_; clear hs; (try clear a w); intro a w hs
    refine sy hs (y_i2i rfl (by rw [Tryd.underlying5]; rfl) Tryd.underlying3 (wr_i64 (by omega))) ?_; clear hs; (try clear a w); intro a w hs
    refine sy hs (y_move rfl) ?_; clear hs; (try clear a w); intro a w hs
    first | (refine sy hs (y_nilCheck rfl) ?_; clear hs; (try clear a w); intro a w hs) | (refine sy hs (y_nilE rfl) ?_; clear hs; (try clear a w); intro a w hs)
    first | (refine sy hs (y_fieldAddr rfl (FO.of (off := 5) Tryd.underlying127 rfl rfl ti3 (by decide))) ?_; clear hs; (try clear a w); intro a w hs) | (refine sy hs (y_faE rfl (FO.of (off := 5) Tryd.underlying127 rfl rfl ti3 (by decide))) ?_; clear hs; (try clear a w); intro a w hs)
    refine sy hs (y_ld rfl Tryd.underlying3 rfl (Cell.blk hgX gcA_5)) ?_; clear hs; (try clear a w); intro a w hs
    refine sy hs (y_eql rfl rfl) ?_; clear hs; (try clear a w); intro a w hs
    refine RL_nil ?_
    refine hK17 _ _ ?_; clear hK17
    rw [decide_eq_false (show ¬ (m : Int) = (T : Int) by omega)] at hs
    refine W_condF hs rfl ?_
    refine W_skip ?_
    refine hK16 _ _ ?_; clear hK16
    refine W_seq fun K18 hK18 => ?_
    refine W_region ?_
    refine sy hs (y_move rfl) ?_; clear hs; (try clear a w); intro a w hs
    first | (refine sy hs (y_nilCheck rfl) ?_; clear hs; (try clear a w); intro a w hs) | (refine sy hs (y_nilE rfl) ?_; clear hs; (try clear a w); intro a w hs)
    first | (refine sy hs (y_fieldAddr rfl (FO.of (off := 4) Tryd.underlying125 rfl rfl ti123 (by decide))) ?_; clear hs; (try clear a w); intro a w hs) | (refine sy hs (y_faE rfl (FO.of (off := 4) Tryd.underlying125 rfl rfl ti123 (by decide))) ?_; clear hs; (try clear a w); intro a w hs)
    refine sy hs (y_ld rfl Tryd.underlying123 rfl (Cell.blk hgX gcA_4)) ?_; clear hs; (try clear a w); intro a w hs
    refine sy hs (y_move rfl) ?_; clear hs; (try clear a w); intro a w hs
    refine sy hs (y_indexAddr (m := m) (Rd.st hs hrX) rfl rfl rfl hmr Tryd.underlying123 ti122) ?_; clear hs; (try clear a w); intro a w hs
    refine sy hs (y_loadE (i := m) (j := 0) (Rd.st hs hrX) rfl hr rfl Tryd.underlying122 rfl) ?_; clear hs; (try clear a w); intro a w hs
    refine sy hs (y_assign rfl) ?_; clear hs; (try clear a w); intro a w hs
    refine RL_nil ?_
    refine hK18 _ _ ?_; clear hK18
    refine W_seq fun K19 hK19 => ?_
    refine W_region ?_
    refine sy hs (y_move rfl) ?_; clear hs; (try clear a w); intro a w hs
    refine sy hs (y_sliceSV (lo := 1) (hi := s'.size) rfl rfl Tryd.underlying9 (.inr ⟨_, rfl, rfl⟩) (.inl ⟨rfl, rfl⟩) hs1 (Nat.le_refl _)) ?_; clear hs; (try clear a w); intro a w hs
    refine sy hs (y_assign rfl) ?_; clear hs; (try clear a w); intro a w hs
    refine RL_nil ?_
    refine hK19 _ _ ?_; clear hK19
    refine W_region ?_
    refine sy hs (y_move rfl) ?_; clear hs; (try clear a w); intro a w hs
    refine sy hs (y_add rfl rfl (wr_i64 (by omega))) ?_; clear hs; (try clear a w); intro a w hs
    refine sy hs (y_assign rfl) ?_; clear hs; (try clear a w); intro a w hs
    refine RL_nil ?_
    rcases hA with ⟨h1, h2⟩ | ⟨h1, n2, h2, h3⟩
    · subst h1
      exact hK 2 _ _ (by omega) ⟨_, _, _, .inr (.inr ⟨rfl, rfl, pfx_nil, h2⟩), hs.sub ⟨rfl, rfl, rfl, rfl, rfl, rfl, rfl, rfl, rfl, trivial⟩⟩
    · exact hK 1 _ _ (by omega) ⟨_, _, _, .inr (.inl ⟨rfl, rfl, rfl, rfl, h1, n2, h2, h3⟩), hs.sub ⟨rfl, rfl, rfl, rfl, rfl, rfl, rfl, rfl, rfl, trivial⟩⟩
  · by_cases hk1 : k = 1
    · obtain ⟨rfl, rfl, rfl, hrn, n2, h2, h3⟩ : x = n1 ∧ s' = s.extract 1 s.size ∧ nn = 1 ∧ rest ≠ bs [] ∧ ∃ n2, Ent.blk n1 (.cells (node (bs []) 0 rest (.pointer (some ⟨n2, 0, none⟩)) (.slice none 0 0)) 125 (0, 0)) ∈ LX ∧ Ent.blk n2 (.cells (leafA val pr) 125 (0, 0)) ∈ LX := by
        rcases hS with ⟨h, _⟩ | ⟨_, h⟩ | ⟨h, _⟩
        · omega
        · exact h
        · omega
      have h2X := List.mem_append_left L h2
      refine W_seq fun K20 hK20 => ?_
      refine W_seq fun K21 hK21 => ?_
      refine W_region ?_
      refine sy hs (y_move rfl) ?_; clear hs; (try clear a w); intro a w hs
      refine sy hs (y_pnilN rfl rfl Tryd.underlying122) ?_; clear hs; (try clear a w); intro a w hs
      refine RL_nil ?_
      refine hK21 _ _ ?_; clear hK21
      refine W_condT hs rfl ?_
      refine W_skip ?_
      refine hK20 _ _ ?_; clear hK20
      refine W_block fun Qe22 hB22 hO22 => ?_
      refine W_seq fun K23 hK23 => ?_
      refine W_seq fun K24 hK24 => ?_
      refine W_region ?_
      refine sy hs (y_move rfl) ?_; clear hs; (try clear a w); intro a w hs
      first | (refine sy hs (y_nilCheck rfl) ?_; clear hs; (try clear a w); intro a w hs) | (refine sy hs (y_nilE rfl) ?_; clear hs; (try clear a w); intro a w hs)
      first | (refine sy hs (y_fieldAddr rfl (FO.of (off := 1) Tryd.underlying125 rfl rfl ti3 (by decide))) ?_; clear hs; (try clear a w); intro a w hs) | (refine sy hs (y_faE rfl (FO.of (off := 1) Tryd.underlying125 rfl rfl ti3 (by decide))) ?_; clear hs; (try clear a w); intro a w hs)
      refine sy hs (y_ld (u := .int .i64 0) rfl Tryd.underlying3 rfl (Cell.blk h2X rfl)) ?_; clear hs; (try clear a w); intro a w hs
      refine sy hs (y_move rfl) ?_; clear hs; (try clear a w); intro a w hs
      refine sy hs (y_gtr rfl rfl) ?_; clear hs; (try clear a w); intro a w hs
      rw [show decide ((0 : Int) < 0) = false from rfl] at hs
      refine sy hs (y_move rfl) ?_; clear hs; (try clear a w); intro a w hs
      refine sno hs ?_; clear hs; (try clear a w); intro a w hs
      refine sno hs ?_; clear hs; (try clear a w); intro a w hs
      refine sun hs ?_; clear hs; (try clear a w); intro a w hs
      refine sun hs ?_; clear hs; (try clear a w); intro a w hs
      refine sun hs ?_; clear hs; (try clear a w); intro a w hs
      refine sun hs ?_; clear hs; (try clear a w); intro a w hs
      refine sun hs ?_; clear hs; (try clear a w); intro a w hs
      refine sno hs ?_; clear hs; (try clear a w); intro a w hs
      refine sno hs ?_; clear hs; (try clear a w); intro a w hs
      refine sy hs (y_pick rfl rfl) ?_; clear hs; (try clear a w); intro a w hs
      refine RL_nil ?_
      refine hK24 _ _ ?_; clear hK24
      refine W_condF hs rfl ?_
      refine W_skip ?_
      refine hK23 _ _ ?_; clear hK23
      refine W_seq fun K25 hK25 => ?_
      refine W_seq fun K26 hK26 => ?_
      refine W_region ?_
      refine sy hs (y_move rfl) ?_; clear hs; (try clear a w); intro a w hs
      refine sy hs (y_seql rfl rfl) ?_; clear hs; (try clear a w); intro a w hs
      refine RL_nil ?_
      refine hK26 _ _ ?_; clear hK26
      first | refine W_condP hs rfl (fun he => ?_) (fun he => ?_) | refine W_cond hs rfl (fun he => ?_) (fun he => ?_)
      · refine W_exit ?_
        refine hO22 _ rfl _ _ ?_
        refine hB6 _ _ ?_
        refine hK5 _ _ ?_; clear hK5
        refine W_ret ?_
        refine Rt_3 hs rfl rfl rfl rfl ?_
        exact ⟨by rw [lkV, he, show (⟨#[]⟩ : ByteArray) = bs [] from rfl, not_pfx hrn]; rfl, hs.cw⟩
      · refine W_skip ?_
        refine hK25 _ _ ?_; clear hK25
        refine W_seq fun K27 hK27 => ?_
        refine W_region ?_
        refine sy hs (y_move rfl) ?_; clear hs; (try clear a w); intro a w hs
        first | (refine sy hs (y_nilCheck rfl) ?_; clear hs; (try clear a w); intro a w hs) | (refine sy hs (y_nilE rfl) ?_; clear hs; (try clear a w); intro a w hs)
        first | (refine sy hs (y_fieldAddr rfl (FO.of (off := 4) Tryd.underlying125 rfl rfl ti123 (by decide))) ?_; clear hs; (try clear a w); intro a w hs) | (refine sy hs (y_faE rfl (FO.of (off := 4) Tryd.underlying125 rfl rfl ti123 (by decide))) ?_; clear hs; (try clear a w); intro a w hs)
        refine sy hs (y_ld (u := .slice none 0 0) rfl Tryd.underlying123 rfl (Cell.blk h2X rfl)) ?_; clear hs; (try clear a w); intro a w hs
        refine sy hs (y_slNeq rfl Tryd.underlying123) ?_; clear hs; (try clear a w); intro a w hs
        refine RL_nil ?_
        refine hK27 _ _ ?_; clear hK27
        refine W_condF hs rfl ?_
        refine W_seq fun K28 hK28 => ?_
        refine W_region ?_
        refine sy hs (y_move rfl) ?_; clear hs; (try clear a w); intro a w hs
        first | (refine sy hs (y_nilCheck rfl) ?_; clear hs; (try clear a w); intro a w hs) | (refine sy hs (y_nilE rfl) ?_; clear hs; (try clear a w); intro a w hs)
        first | (refine sy hs (y_fieldAddr rfl (FO.of (off := 2) Tryd.underlying125 rfl rfl ti9 (by decide))) ?_; clear hs; (try clear a w); intro a w hs) | (refine sy hs (y_faE rfl (FO.of (off := 2) Tryd.underlying125 rfl rfl ti9 (by decide))) ?_; clear hs; (try clear a w); intro a w hs)
        refine sy hs (y_ld (u := .string rest) rfl Tryd.underlying9 rfl (Cell.blk h2X rfl)) ?_; clear hs; (try clear a w); intro a w hs
        refine sy hs (y_sneq rfl rfl) ?_; clear hs; (try clear a w); intro a w hs
        rw [decide_eq_true (show rest ≠ ⟨#[]⟩ from hrn)] at hs
        refine sy hs (y_move rfl) ?_; clear hs; (try clear a w); intro a w hs
        refine syg hs (y_move rfl) ?_; clear hs; (try clear a w); intro a w hs
        refine syg hs (y_move rfl) ?_; clear hs; (try clear a w); intro a w hs
        first | (refine syg hs (y_nilCheck rfl) ?_; clear hs; (try clear a w); intro a w hs) | (refine syg hs (y_nilE rfl) ?_; clear hs; (try clear a w); intro a w hs)
        first | (refine syg hs (y_fieldAddr rfl (FO.of (off := 2) Tryd.underlying125 rfl rfl ti9 (by decide))) ?_; clear hs; (try clear a w); intro a w hs) | (refine syg hs (y_faE rfl (FO.of (off := 2) Tryd.underlying125 rfl rfl ti9 (by decide))) ?_; clear hs; (try clear a w); intro a w hs)
        refine syg hs (y_ld (u := .string rest) rfl Tryd.underlying9 rfl (Cell.blk h2X rfl)) ?_; clear hs; (try clear a w); intro a w hs
        refine syg hs (y_call rfl has70 rfl pfx_ok) ?_; clear hs; (try clear a w); intro a w hs
        refine sy hs (y_pick rfl rfl) ?_; clear hs; (try clear a w); intro a w hs
        refine RL_nil ?_
        refine hK28 _ _ ?_; clear hK28
        first | refine W_condP hs rfl (fun hp => ?_) (fun hp => ?_) | refine W_cond hs rfl (fun hp => ?_) (fun hp => ?_)
        · refine W_seq fun K29 hK29 => ?_
          refine W_region ?_
          refine sy hs (y_move rfl) ?_; clear hs; (try clear a w); intro a w hs
          refine sy hs (y_move rfl) ?_; clear hs; (try clear a w); intro a w hs
          first | (refine sy hs (y_nilCheck rfl) ?_; clear hs; (try clear a w); intro a w hs) | (refine sy hs (y_nilE rfl) ?_; clear hs; (try clear a w); intro a w hs)
          first | (refine sy hs (y_fieldAddr rfl (FO.of (off := 2) Tryd.underlying125 rfl rfl ti9 (by decide))) ?_; clear hs; (try clear a w); intro a w hs) | (refine sy hs (y_faE rfl (FO.of (off := 2) Tryd.underlying125 rfl rfl ti9 (by decide))) ?_; clear hs; (try clear a w); intro a w hs)
          refine sy hs (y_ld (u := .string rest) rfl Tryd.underlying9 rfl (Cell.blk h2X rfl)) ?_; clear hs; (try clear a w); intro a w hs
          refine sy hs (y_lenS rfl Tryd.underlying9) ?_; clear hs; (try clear a w); intro a w hs
          refine sy hs (y_add rfl rfl (wr_i64 (by omega))) ?_; clear hs; (try clear a w); intro a w hs
          refine sy hs (y_assign rfl) ?_; clear hs; (try clear a w); intro a w hs
          refine RL_nil ?_
          refine hK29 _ _ ?_; clear hK29
          refine W_seq fun K30 hK30 => ?_
          refine W_region ?_
          refine sy hs (y_move rfl) ?_; clear hs; (try clear a w); intro a w hs
          refine sy hs (y_move rfl) ?_; clear hs; (try clear a w); intro a w hs
          first | (refine sy hs (y_nilCheck rfl) ?_; clear hs; (try clear a w); intro a w hs) | (refine sy hs (y_nilE rfl) ?_; clear hs; (try clear a w); intro a w hs)
          first | (refine sy hs (y_fieldAddr rfl (FO.of (off := 2) Tryd.underlying125 rfl rfl ti9 (by decide))) ?_; clear hs; (try clear a w); intro a w hs) | (refine sy hs (y_faE rfl (FO.of (off := 2) Tryd.underlying125 rfl rfl ti9 (by decide))) ?_; clear hs; (try clear a w); intro a w hs)
          refine sy hs (y_ld (u := .string rest) rfl Tryd.underlying9 rfl (Cell.blk h2X rfl)) ?_; clear hs; (try clear a w); intro a w hs
          refine sy hs (y_lenS rfl Tryd.underlying9) ?_; clear hs; (try clear a w); intro a w hs
          refine sy hs (y_sliceSV (lo := rest.size) (hi := (s.extract 1 s.size).size) rfl rfl Tryd.underlying9 (.inr ⟨_, rfl, rfl⟩) (.inl ⟨rfl, rfl⟩) (pfx_true hp).1 (Nat.le_refl _)) ?_; clear hs; (try clear a w); intro a w hs
          refine sy hs (y_assign rfl) ?_; clear hs; (try clear a w); intro a w hs
          refine RL_nil ?_
          refine hK30 _ _ ?_; clear hK30
          refine W_region ?_
          refine sy hs (y_move rfl) ?_; clear hs; (try clear a w); intro a w hs
          first | (refine sy hs (y_nilCheck rfl) ?_; clear hs; (try clear a w); intro a w hs) | (refine sy hs (y_nilE rfl) ?_; clear hs; (try clear a w); intro a w hs)
          first | (refine sy hs (y_fieldAddr rfl (FO.of (off := 3) Tryd.underlying125 rfl rfl ti122 (by decide))) ?_; clear hs; (try clear a w); intro a w hs) | (refine sy hs (y_faE rfl (FO.of (off := 3) Tryd.underlying125 rfl rfl ti122 (by decide))) ?_; clear hs; (try clear a w); intro a w hs)
          refine sy hs (y_ld (u := .pointer (some ⟨n2, 0, none⟩)) rfl Tryd.underlying122 rfl (Cell.blk h2X rfl)) ?_; clear hs; (try clear a w); intro a w hs
          refine sy hs (y_assign rfl) ?_; clear hs; (try clear a w); intro a w hs
          refine RL_nil ?_
          exact hK 2 _ _ (by omega) ⟨_, _, _, .inr (.inr ⟨rfl, rfl, hp, h3⟩), hs.sub ⟨rfl, rfl, rfl, rfl, rfl, rfl, rfl, rfl, rfl, trivial⟩⟩
        · refine W_exit ?_
          refine hO22 _ rfl _ _ ?_
          refine hB6 _ _ ?_
          refine hK5 _ _ ?_; clear hK5
          refine W_ret ?_
          refine Rt_3 hs rfl rfl rfl rfl ?_
          exact ⟨by rw [lkV, hp]; rfl, hs.cw⟩
    · obtain ⟨rfl, hp, h3⟩ : nn = 1 + (rest.size : Int) ∧ pfx (s.extract 1 s.size) rest = true ∧ Ent.blk x (.cells (leafA val pr) 125 (0, 0)) ∈ LX := by
        rcases hS with ⟨h, _⟩ | ⟨h, _⟩ | ⟨_, h⟩
        · omega
        · omega
        · exact h
      have h3X := List.mem_append_left L h3
      refine W_seq fun K31 hK31 => ?_
      refine W_seq fun K32 hK32 => ?_
      refine W_region ?_
      refine sy hs (y_move rfl) ?_; clear hs; (try clear a w); intro a w hs
      refine sy hs (y_pnilN rfl rfl Tryd.underlying122) ?_; clear hs; (try clear a w); intro a w hs
      refine RL_nil ?_
      refine hK32 _ _ ?_; clear hK32
      refine W_condT hs rfl ?_
      refine W_skip ?_
      refine hK31 _ _ ?_; clear hK31
      refine W_block fun Qe33 hB33 hO33 => ?_
      refine W_seq fun K34 hK34 => ?_
      refine W_seq fun K35 hK35 => ?_
      refine W_region ?_
      refine sy hs (y_move rfl) ?_; clear hs; (try clear a w); intro a w hs
      first | (refine sy hs (y_nilCheck rfl) ?_; clear hs; (try clear a w); intro a w hs) | (refine sy hs (y_nilE rfl) ?_; clear hs; (try clear a w); intro a w hs)
      first | (refine sy hs (y_fieldAddr rfl (FO.of (off := 1) Tryd.underlying125 rfl rfl ti3 (by decide))) ?_; clear hs; (try clear a w); intro a w hs) | (refine sy hs (y_faE rfl (FO.of (off := 1) Tryd.underlying125 rfl rfl ti3 (by decide))) ?_; clear hs; (try clear a w); intro a w hs)
      refine sy hs (y_ld (u := .int .i64 pr) rfl Tryd.underlying3 rfl (Cell.blk h3X rfl)) ?_; clear hs; (try clear a w); intro a w hs
      refine sy hs (y_move rfl) ?_; clear hs; (try clear a w); intro a w hs
      refine sy hs (y_gtr rfl rfl) ?_; clear hs; (try clear a w); intro a w hs
      rw [decide_eq_true (show (0 : Int) < pr from hpr)] at hs
      refine sy hs (y_move rfl) ?_; clear hs; (try clear a w); intro a w hs
      refine syg hs (y_move rfl) ?_; clear hs; (try clear a w); intro a w hs
      refine syg hs (y_move rfl) ?_; clear hs; (try clear a w); intro a w hs
      refine sno hs ?_; clear hs; (try clear a w); intro a w hs
      refine sno hs ?_; clear hs; (try clear a w); intro a w hs
      refine sno hs ?_; clear hs; (try clear a w); intro a w hs
      refine sno hs ?_; clear hs; (try clear a w); intro a w hs
      refine sno hs ?_; clear hs; (try clear a w); intro a w hs
      refine syg hs (y_pick rfl rfl) ?_; clear hs; (try clear a w); intro a w hs
      refine syg hs (y_not rfl) ?_; clear hs; (try clear a w); intro a w hs
      refine sy hs (y_pick rfl rfl) ?_; clear hs; (try clear a w); intro a w hs
      refine RL_nil ?_
      refine hK35 _ _ ?_; clear hK35
      refine W_condT hs rfl ?_
      refine W_seq fun K36 hK36 => ?_
      refine W_region ?_
      refine sy hs (y_move rfl) ?_; clear hs; (try clear a w); intro a w hs
      first | (refine sy hs (y_nilCheck rfl) ?_; clear hs; (try clear a w); intro a w hs) | (refine sy hs (y_nilE rfl) ?_; clear hs; (try clear a w); intro a w hs)
      first | (refine sy hs (y_fieldAddr rfl (FO.of (off := 1) Tryd.underlying125 rfl rfl ti3 (by decide))) ?_; clear hs; (try clear a w); intro a w hs) | (refine sy hs (y_faE rfl (FO.of (off := 1) Tryd.underlying125 rfl rfl ti3 (by decide))) ?_; clear hs; (try clear a w); intro a w hs)
      refine sy hs (y_ld (u := .int .i64 pr) rfl Tryd.underlying3 rfl (Cell.blk h3X rfl)) ?_; clear hs; (try clear a w); intro a w hs
      refine sy hs (y_assign rfl) ?_; clear hs; (try clear a w); intro a w hs
      refine RL_nil ?_
      refine hK36 _ _ ?_; clear hK36
      refine W_seq fun K37 hK37 => ?_
      refine W_region ?_
      refine sy hs (y_move rfl) ?_; clear hs; (try clear a w); intro a w hs
      first | (refine sy hs (y_nilCheck rfl) ?_; clear hs; (try clear a w); intro a w hs) | (refine sy hs (y_nilE rfl) ?_; clear hs; (try clear a w); intro a w hs)
      first | (refine sy hs (y_fieldAddr rfl (FO.of (off := 0) Tryd.underlying125 rfl rfl ti9 (by decide))) ?_; clear hs; (try clear a w); intro a w hs) | (refine sy hs (y_faE rfl (FO.of (off := 0) Tryd.underlying125 rfl rfl ti9 (by decide))) ?_; clear hs; (try clear a w); intro a w hs)
      refine sy hs (y_ld (u := .string val) rfl Tryd.underlying9 rfl (Cell.blk h3X rfl)) ?_; clear hs; (try clear a w); intro a w hs
      refine sy hs (y_assign rfl) ?_; clear hs; (try clear a w); intro a w hs
      refine RL_nil ?_
      refine hK37 _ _ ?_; clear hK37
      refine W_seq fun K38 hK38 => ?_
      refine W_region ?_
      refine sy hs (y_move rfl) ?_; clear hs; (try clear a w); intro a w hs
      refine sy hs (y_assign rfl) ?_; clear hs; (try clear a w); intro a w hs
      refine RL_nil ?_
      refine hK38 _ _ ?_; clear hK38
      refine W_region ?_
      refine sy hs (y_assign rfl) ?_; clear hs; (try clear a w); intro a w hs
      refine RL_nil ?_
      refine hK34 _ _ ?_; clear hK34
      refine W_seq fun K39 hK39 => ?_
      refine W_seq fun K40 hK40 => ?_
      refine W_region ?_
      refine sy hs (y_move rfl) ?_; clear hs; (try clear a w); intro a w hs
      refine sy hs (y_seql rfl rfl) ?_; clear hs; (try clear a w); intro a w hs
      refine RL_nil ?_
      refine hK40 _ _ ?_; clear hK40
      first | refine W_condP hs rfl (fun he => ?_) (fun he => ?_) | refine W_cond hs rfl (fun he => ?_) (fun he => ?_)
      · refine W_exit ?_
        refine hO33 _ rfl _ _ ?_
        refine hB6 _ _ ?_
        refine hK5 _ _ ?_; clear hK5
        refine W_ret ?_
        refine Rt_3 hs rfl rfl rfl rfl ?_
        exact ⟨by rw [lkV, if_pos hp], hs.cw⟩
      · refine W_skip ?_
        refine hK39 _ _ ?_; clear hK39
        refine W_seq fun K41 hK41 => ?_
        refine W_region ?_
        refine sy hs (y_move rfl) ?_; clear hs; (try clear a w); intro a w hs
        first | (refine sy hs (y_nilCheck rfl) ?_; clear hs; (try clear a w); intro a w hs) | (refine sy hs (y_nilE rfl) ?_; clear hs; (try clear a w); intro a w hs)
        first | (refine sy hs (y_fieldAddr rfl (FO.of (off := 4) Tryd.underlying125 rfl rfl ti123 (by decide))) ?_; clear hs; (try clear a w); intro a w hs) | (refine sy hs (y_faE rfl (FO.of (off := 4) Tryd.underlying125 rfl rfl ti123 (by decide))) ?_; clear hs; (try clear a w); intro a w hs)
        refine sy hs (y_ld (u := .slice none 0 0) rfl Tryd.underlying123 rfl (Cell.blk h3X rfl)) ?_; clear hs; (try clear a w); intro a w hs
        refine sy hs (y_slNeq rfl Tryd.underlying123) ?_; clear hs; (try clear a w); intro a w hs
        refine RL_nil ?_
        refine hK41 _ _ ?_; clear hK41
        refine W_condF hs rfl ?_
        refine W_seq fun K42 hK42 => ?_
        refine W_region ?_
        refine sy hs (y_move rfl) ?_; clear hs; (try clear a w); intro a w hs
        first | (refine sy hs (y_nilCheck rfl) ?_; clear hs; (try clear a w); intro a w hs) | (refine sy hs (y_nilE rfl) ?_; clear hs; (try clear a w); intro a w hs)
        first | (refine sy hs (y_fieldAddr rfl (FO.of (off := 2) Tryd.underlying125 rfl rfl ti9 (by decide))) ?_; clear hs; (try clear a w); intro a w hs) | (refine sy hs (y_faE rfl (FO.of (off := 2) Tryd.underlying125 rfl rfl ti9 (by decide))) ?_; clear hs; (try clear a w); intro a w hs)
        refine sy hs (y_ld (u := .string (bs [])) rfl Tryd.underlying9 rfl (Cell.blk h3X rfl)) ?_; clear hs; (try clear a w); intro a w hs
        refine sy hs (y_sneq rfl rfl) ?_; clear hs; (try clear a w); intro a w hs
        rw [decide_eq_false (show ¬ bs [] ≠ ⟨#[]⟩ from fun h => h rfl)] at hs
        refine sy hs (y_move rfl) ?_; clear hs; (try clear a w); intro a w hs
        refine sno hs ?_; clear hs; (try clear a w); intro a w hs
        refine sno hs ?_; clear hs; (try clear a w); intro a w hs
        refine sno hs ?_; clear hs; (try clear a w); intro a w hs
        refine sno hs ?_; clear hs; (try clear a w); intro a w hs
        refine sno hs ?_; clear hs; (try clear a w); intro a w hs
        refine sno hs ?_; clear hs; (try clear a w); intro a w hs
        refine sy hs (y_pick rfl rfl) ?_; clear hs; (try clear a w); intro a w hs
        refine RL_nil ?_
        refine hK42 _ _ ?_; clear hK42
        refine W_condF hs rfl ?_
        refine W_exit ?_
        refine hO33 _ rfl _ _ ?_
        refine hB6 _ _ ?_
        refine hK5 _ _ ?_; clear hK5
        refine W_ret ?_
        refine Rt_3 hs rfl rfl rfl rfl ?_
        exact ⟨by rw [lkV, if_pos hp], hs.cw⟩
