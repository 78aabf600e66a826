/-
  Walks and laws of this seat.
-/
import Derived.Test.YtpfdbeafdjnbnaaGreatDoorX18
import Derived.Test.YtpfdbeafdjnbnaaGreatDoorRows
import Derived.Test.YtpfdbeafdjnbnaaGreatDoorX1
namespace Go.Proofs.YtpfdbeafdjnbnaaGreatDoor
set_option linter.unusedVariables false
set_option linter.unusedSimpArgs false
set_option linter.unusedSectionVars false
section
open Go.RowKit Go.Sl
theorem zup {s : ByteArray} : pfx s (bs []) = true := by
  have : s.extract 0 0 = bs [] := by
    simp; rfl
  rw [pfx, show (bs []).size = 0 from rfl, this]; simp
abbrev leafA (val : ByteArray) (pr : Int) : Array Value := node val pr (bs []) (.pointer none) (.slice none 0 0)
def lkV (s rest val : ByteArray) : Value := if pfx (s.extract 1 s.size) rest = true then .tuple #[.string val, .int .i64 (1 + (rest.size : Int)), .bool true] else .tuple #[.string (bs []), .int .i64 0, .bool false]
def Sta (LX : List Ent) (g n1 : Nat) (s rest val : ByteArray) (pr : Int) (k x : Nat) (s' : ByteArray) (nn : Int) : Prop :=
  (k = 0 ∧ x = g ∧ s' = s ∧ nn = 0) ∨
  (k = 1 ∧ x = n1 ∧ s' = s.extract 1 s.size ∧ nn = 1 ∧ rest ≠ bs [] ∧ ∃ n2, Ent.blk n1 (.cells (node (bs []) 0 rest (pq n2 0) (.slice none 0 0)) 181 (0,0)) ∈ LX ∧ Ent.blk n2 (.cells (leafA val pr) 181 (0,0)) ∈ LX) ∨
  (k = 2 ∧ nn = 1 + (rest.size : Int) ∧ pfx (s.extract 1 s.size) rest = true ∧ Ent.blk x (.cells (leafA val pr) 181 (0,0)) ∈ LX)
theorem not_pfx {rest : ByteArray} (h : rest ≠ bs []) : pfx (bs []) rest = false := by
  cases hp : pfx (bs []) rest with
  | false => rfl
  | true =>
    obtain ⟨h1, h2⟩ := zpt hp
    exact absurd (ByteArray.ext (Array.eq_empty_of_size_eq_zero (Nat.le_zero.1 h1))) h
set_option maxRecDepth 20000 in
theorem ztr {f : Fz} {LX : List Ent} {g : Nat} {tv : Value} {T : Nat} {N : List Int} {ig : Bool} (hg : Ent.blk g (.cells (gcA tv T N) 183 (0,0)) ∈ LX) :
    GivesL Tryz.prog 167 [pq g 0, .string (bs []), .bool ig] f LX (.tuple #[.string (bs []), .int .i64 0, .bool false]) := by
  intro w0 L w hC
  have hgX : Ent.blk g (.cells (gcA tv T N) 183 (0,0)) ∈ LX ++ L := List.mem_append_left _ hg
  refine enter Tryz.func167 rfl Tryz.ntmps167 (by simp) hC fun a hs => ?_
  refine zai fun K1 hK1 => ?_
  refine za2 ?_
  refine sy hs (za9 rfl) fun _ _ hs => ?_
  refine sy hs (za9 rfl) fun _ _ hs => ?_
  refine sy hs (za9 rfl) fun _ _ hs => ?_
  refine za0 ?_
  refine hK1 _ _ ?_; clear hK1
  refine zai fun K2 hK2 => ?_
  refine za2 ?_
  refine sy hs (za9 rfl) fun _ _ hs => ?_
  refine za0 ?_
  refine hK2 _ _ ?_; clear hK2
  refine zai fun K3 hK3 => ?_
  refine za2 ?_
  refine sy hs (za3 rfl) fun _ _ hs => ?_
  first | (refine sy hs (za5 rfl) ?_; clear hs; (try clear a w); intro a w hs) | (refine sy hs (y_nilE rfl) ?_; clear hs; (try clear a w); intro a w hs)
  first | (refine sy hs (za1 rfl (FO.of (off := 0) U183 rfl rfl ti181 (by decide))) ?_; clear hs; (try clear a w); intro a w hs) | (refine sy hs (y_faE rfl (FO.of (off := 0) U183 rfl rfl ti181 (by decide))) ?_; clear hs; (try clear a w); intro a w hs)
  refine sy hs (za9 rfl) fun _ _ hs => ?_
  refine za0 ?_
  refine hK3 _ _ ?_; clear hK3
  refine zai fun K4 hK4 => ?_
  refine za2 ?_
  refine sy hs (za9 rfl) fun _ _ hs => ?_
  refine za0 ?_
  refine hK4 _ _ ?_; clear hK4
  refine zai fun K5 hK5 => ?_
  refine zam fun Qe6 hB6 hO6 => ?_
  refine zd1 (fun (_ : Unit) a w => St 107 w0 f (LX ++ L) [(0, pq g 0),(1, .string (bs [])),(6, .string (bs [])),(7, .int .i64 0),(8, .bool false),(9, .int .i64 0),(10, pq g 0)] a w) (fun _ => 0) () (hs.sub ⟨rfl, rfl, rfl, rfl, rfl, rfl, rfl, trivial⟩) ?_
  clear hs; rintro - a w hs K -
  refine zai fun K7 hK7 => ?_
  refine zai fun K8 hK8 => ?_
  refine za2 ?_
  refine sy hs (za3 rfl) fun _ _ hs => ?_
  refine sy hs (zph rfl rfl U178) fun _ _ hs => ?_
  refine za0 ?_
  refine hK8 _ _ ?_; clear hK8
  refine zdq hs rfl ?_
  refine zaj ?_
  refine hK7 _ _ ?_; clear hK7
  refine zam fun Qe9 hB9 hO9 => ?_
  refine zai fun K10 hK10 => ?_
  refine zai fun K11 hK11 => ?_
  refine za2 ?_
  refine sy hs (za3 rfl) fun _ _ hs => ?_
  first | (refine sy hs (za5 rfl) ?_; clear hs; (try clear a w); intro a w hs) | (refine sy hs (y_nilE rfl) ?_; clear hs; (try clear a w); intro a w hs)
  first | (refine sy hs (za1 rfl (FO.of (off := 1) U181 rfl rfl ti3 (by decide))) ?_; clear hs; (try clear a w); intro a w hs) | (refine sy hs (y_faE rfl (FO.of (off := 1) U181 rfl rfl ti3 (by decide))) ?_; clear hs; (try clear a w); intro a w hs)
  refine sy hs (y_ld rfl U3 rfl (Cell.blk hgX gcA_1)) fun _ _ hs => ?_
  refine sy hs (za3 rfl) fun _ _ hs => ?_
  refine sy hs (zhq rfl rfl) fun _ _ hs => ?_
  rw [show decide ((0 : Int) < 0) = false from rfl] at hs
  refine sy hs (za3 rfl) fun _ _ hs => ?_
  refine sno hs fun _ _ hs => ?_
  refine sno hs fun _ _ hs => ?_
  refine sun hs fun _ _ hs => ?_
  refine sun hs fun _ _ hs => ?_
  refine sun hs fun _ _ hs => ?_
  refine sun hs fun _ _ hs => ?_
  refine sun hs fun _ _ hs => ?_
  refine sno hs fun _ _ hs => ?_
  refine sno hs fun _ _ hs => ?_
  refine sy hs (zaz rfl rfl) fun _ _ hs => ?_
  refine za0 ?_
  refine hK11 _ _ ?_; clear hK11
  refine zdj hs rfl ?_
  refine zaj ?_
  refine hK10 _ _ ?_; clear hK10
  refine zai fun K12 hK12 => ?_
  refine zai fun K13 hK13 => ?_
  refine za2 ?_
  refine sy hs (za3 rfl) fun _ _ hs => ?_
  refine sy hs (zcs rfl rfl) fun _ _ hs => ?_
  refine za0 ?_
  refine hK13 _ _ ?_; clear hK13
  rw [decide_eq_true (show bs [] = ⟨#[]⟩ from rfl)] at hs
  refine zdq hs rfl ?_
  refine zc0 ?_
  refine hO9 _ rfl _ _ ?_
  refine hB6 _ _ ?_
  refine hK5 _ _ ?_; clear hK5
  refine zax ?_
  refine Rt_3 hs rfl rfl rfl rfl ?_
  exact ⟨rfl, hs.cw⟩
set_option maxRecDepth 20000 in
set_option maxHeartbeats 8000000 in
theorem zv2 {f : Fz} {LX : List Ent} {g n1 : Nat} {tv : Value} {T : Nat} {N : List Int} {rows : List (List Value)} {s rest val : ByteArray} {c m : Nat} {pr : Int} (hg : Ent.blk g (.cells (gcA tv T N) 183 (0,0)) ∈ LX) (hrw : Ent.row tv 178 1 rows ∈ LX) (hc : getS s 0 = some (c : Int)) (hc2 : c < 256) (hN : N[c]? = some (m : Int)) (hmT : m < T) (hT : T ≤ 256)
    (hr : rows[m]? = some [pq n1 0]) (hA : NodeAt LX n1 rest val pr) (hpr : 0 < pr) (hsz : rest.size ≤ 1000000) :
    GivesL Tryz.prog 167 [pq g 0, .string s, .bool false] f LX (lkV s rest val) := by
  intro w0 L w hC
  have hgX : Ent.blk g (.cells (gcA tv T N) 183 (0,0)) ∈ LX ++ L := List.mem_append_left _ hg
  have hrX : Ent.row tv 178 1 rows ∈ LX ++ L := List.mem_append_left _ hrw
  have hmr : m < rows.length := (List.getElem?_eq_some_iff.1 hr).1
  have hs1 : 1 ≤ s.size := by
    have := (zrb hc).1
    omega
  have hs0 : ¬ s = ⟨#[]⟩ := fun h => by rw [h] at hs1; exact absurd hs1 (by decide)
  obtain ⟨ad, cap, htv⟩ : ∃ ad cap, tv = .slice (some ad) rows.length cap := by
    obtain ⟨ao, cap, h, _, hn, _⟩ := (Rd.ofOwn hrX hC).val
    cases ao with
    | none => rw [hn rfl] at hmr; simp at hmr
    | some ad => exact ⟨ad, cap, h⟩
  refine enter Tryz.func167 rfl Tryz.ntmps167 (by simp) hC fun a hs => ?_
  refine zai fun K1 hK1 => ?_
  refine za2 ?_
  refine sy hs (za9 rfl) fun _ _ hs => ?_
  refine sy hs (za9 rfl) fun _ _ hs => ?_
  refine sy hs (za9 rfl) fun _ _ hs => ?_
  refine za0 ?_
  refine hK1 _ _ ?_; clear hK1
  refine zai fun K2 hK2 => ?_
  refine za2 ?_
  refine sy hs (za9 rfl) fun _ _ hs => ?_
  refine za0 ?_
  refine hK2 _ _ ?_; clear hK2
  refine zai fun K3 hK3 => ?_
  refine za2 ?_
  refine sy hs (za3 rfl) fun _ _ hs => ?_
  first | (refine sy hs (za5 rfl) ?_; clear hs; (try clear a w); intro a w hs) | (refine sy hs (y_nilE rfl) ?_; clear hs; (try clear a w); intro a w hs)
  first | (refine sy hs (za1 rfl (FO.of (off := 0) U183 rfl rfl ti181 (by decide))) ?_; clear hs; (try clear a w); intro a w hs) | (refine sy hs (y_faE rfl (FO.of (off := 0) U183 rfl rfl ti181 (by decide))) ?_; clear hs; (try clear a w); intro a w hs)
  refine sy hs (za9 rfl) fun _ _ hs => ?_
  refine za0 ?_
  refine hK3 _ _ ?_; clear hK3
  refine zai fun K4 hK4 => ?_
  refine za2 ?_
  refine sy hs (za9 rfl) fun _ _ hs => ?_
  refine za0 ?_
  refine hK4 _ _ ?_; clear hK4
  refine zai fun K5 hK5 => ?_
  refine zam fun Qe6 hB6 hO6 => ?_
  refine zd1 (fun (k : Nat) a w => ∃ x s' nn, Sta LX g n1 s rest val pr k x s' nn ∧ St 107 w0 f (LX ++ L) [(0, pq g 0),(1, .string s'),(2, .bool false),(6, .string (bs [])),(7, .int .i64 0),(8, .bool false),(9, .int .i64 0),(10, pq x 0),(11, .int .i64 nn)] a w) (fun k => 3 - k) 0 ⟨_, _, _, .inl ⟨rfl, rfl, rfl, rfl⟩, hs.sub ⟨rfl, rfl, rfl, rfl, rfl, rfl, rfl, rfl, rfl, trivial⟩⟩ ?_
  clear hs; rintro k a w ⟨x, s', nn, hS, hs⟩ K hK
  by_cases hk0 : k = 0
  · obtain ⟨rfl, rfl, rfl⟩ : x = g ∧ s' = s ∧ nn = 0 := by
      rcases hS with ⟨_, h⟩ | ⟨h, _⟩ | ⟨h, _⟩
      · exact h
      · omega
      · omega
    refine zai fun K7 hK7 => ?_
    refine zai fun K8 hK8 => ?_
    refine za2 ?_
    refine sy hs (za3 rfl) fun _ _ hs => ?_
    refine sy hs (zph rfl rfl U178) fun _ _ hs => ?_
    refine za0 ?_
    refine hK8 _ _ ?_; clear hK8
    refine zdq hs rfl ?_
    refine zaj ?_
    refine hK7 _ _ ?_; clear hK7
    refine zam fun Qe9 hB9 hO9 => ?_
    refine zai fun K10 hK10 => ?_
    refine zai fun K11 hK11 => ?_
    refine za2 ?_
    refine sy hs (za3 rfl) fun _ _ hs => ?_
    first | (refine sy hs (za5 rfl) ?_; clear hs; (try clear a w); intro a w hs) | (refine sy hs (y_nilE rfl) ?_; clear hs; (try clear a w); intro a w hs)
    first | (refine sy hs (za1 rfl (FO.of (off := 1) U181 rfl rfl ti3 (by decide))) ?_; clear hs; (try clear a w); intro a w hs) | (refine sy hs (y_faE rfl (FO.of (off := 1) U181 rfl rfl ti3 (by decide))) ?_; clear hs; (try clear a w); intro a w hs)
    refine sy hs (y_ld rfl U3 rfl (Cell.blk hgX gcA_1)) fun _ _ hs => ?_
    refine sy hs (za3 rfl) fun _ _ hs => ?_
    refine sy hs (zhq rfl rfl) fun _ _ hs => ?_
    rw [show decide ((0 : Int) < 0) = false from rfl] at hs
    refine sy hs (za3 rfl) fun _ _ hs => ?_
    refine sno hs fun _ _ hs => ?_
    refine sno hs fun _ _ hs => ?_
    refine sun hs fun _ _ hs => ?_
    refine sun hs fun _ _ hs => ?_
    refine sun hs fun _ _ hs => ?_
    refine sun hs fun _ _ hs => ?_
    refine sun hs fun _ _ hs => ?_
    refine sno hs fun _ _ hs => ?_
    refine sno hs fun _ _ hs => ?_
    refine sy hs (zaz rfl rfl) fun _ _ hs => ?_
    refine za0 ?_
    refine hK11 _ _ ?_; clear hK11
    refine zdj hs rfl ?_
    refine zaj ?_
    refine hK10 _ _ ?_; clear hK10
    refine zai fun K12 hK12 => ?_
    refine zai fun K13 hK13 => ?_
    refine za2 ?_
    refine sy hs (za3 rfl) fun _ _ hs => ?_
    refine sy hs (zcs rfl rfl) fun _ _ hs => ?_
    refine za0 ?_
    refine hK13 _ _ ?_; clear hK13
    rw [decide_eq_false hs0] at hs
    refine zdj hs rfl ?_
    refine zaj ?_
    refine hK12 _ _ ?_; clear hK12
    refine zai fun K14 hK14 => ?_
    refine za2 ?_
    refine sy hs (za3 rfl) fun _ _ hs => ?_
    first | (refine sy hs (za5 rfl) ?_; clear hs; (try clear a w); intro a w hs) | (refine sy hs (y_nilE rfl) ?_; clear hs; (try clear a w); intro a w hs)
    first | (refine sy hs (za1 rfl (FO.of (off := 4) U181 rfl rfl ti179 (by decide))) ?_; clear hs; (try clear a w); intro a w hs) | (refine sy hs (y_faE rfl (FO.of (off := 4) U181 rfl rfl ti179 (by decide))) ?_; clear hs; (try clear a w); intro a w hs)
    refine sy hs (y_ld rfl U179 rfl (Cell.blk hgX (zvc.trans (congrArg some htv)))) fun _ _ hs => ?_
    refine sy hs (znh rfl U179) fun _ _ hs => ?_
    refine za0 ?_
    refine hK14 _ _ ?_; clear hK14
    refine zdq hs rfl ?_
    refine zai fun K15 hK15 => ?_
    refine zju hs mixed (by kernel_rfl) ?_; intro a he
    refine qy he (za3 rfl) fun _ he => ?_
    refine qy he (za3 rfl) fun _ he => ?_
    refine qy he (zoc rfl rfl U9 hc) fun _ he => ?_
    first | (refine qy he (za5 rfl) ?_; clear he; (try clear a); intro a he) | (refine qy he (y_nilE rfl) ?_; clear he; (try clear a); intro a he)
    first | (refine qy he (za1 rfl (FO.of (off := 6) U183 rfl rfl ti126 (by decide))) ?_; clear he; (try clear a); intro a he) | (refine qy he (y_faE rfl (FO.of (off := 6) U183 rfl rfl ti126 (by decide))) ?_; clear he; (try clear a); intro a he)
    refine qy he (zlj (j := c) rfl rfl U126 ti5 rfl hc2) fun _ he => ?_
    refine qy he (y_ld rfl U5 rfl (Cell.blk hgX (by rw [show 0 + 6 + c * 1 = 6 + c by omega]; exact zq4 hN))) fun _ he => ?_
    refine qy he (za9 rfl) fun _ he => ?_
    refine zfw he ?_; clear he hs; intro a w hs
    refine hK15 _ _ ?_; clear hK15
    refine zai fun K16 hK16 => ?_
    refine zai fun K17 hK17 => ?_
    refine za2 ?_
    refine sy hs (za3 rfl) fun _ _ hs => ?_
    refine sy hs (zs0 rfl (by rw [U5]; rfl) U3 (zg4 (by omega))) fun _ _ hs => ?_
    refine sy hs (za3 rfl) fun _ _ hs => ?_
    first | (refine sy hs (za5 rfl) ?_; clear hs; (try clear a w); intro a w hs) | (refine sy hs (y_nilE rfl) ?_; clear hs; (try clear a w); intro a w hs)
    first | (refine sy hs (za1 rfl (FO.of (off := 5) U183 rfl rfl ti3 (by decide))) ?_; clear hs; (try clear a w); intro a w hs) | (refine sy hs (y_faE rfl (FO.of (off := 5) U183 rfl rfl ti3 (by decide))) ?_; clear hs; (try clear a w); intro a w hs)
    refine sy hs (y_ld rfl U3 rfl (Cell.blk hgX ztu)) fun _ _ hs => ?_
    refine sy hs (zct rfl rfl) fun _ _ hs => ?_
    refine za0 ?_
    refine hK17 _ _ ?_; clear hK17
    rw [decide_eq_false (show ¬ (m : Int) = (T : Int) by omega)] at hs
    refine zdj hs rfl ?_
    refine zaj ?_
    refine hK16 _ _ ?_; clear hK16
    refine zai fun K18 hK18 => ?_
    refine za2 ?_
    refine sy hs (za3 rfl) fun _ _ hs => ?_
    first | (refine sy hs (za5 rfl) ?_; clear hs; (try clear a w); intro a w hs) | (refine sy hs (y_nilE rfl) ?_; clear hs; (try clear a w); intro a w hs)
    first | (refine sy hs (za1 rfl (FO.of (off := 4) U181 rfl rfl ti179 (by decide))) ?_; clear hs; (try clear a w); intro a w hs) | (refine sy hs (y_faE rfl (FO.of (off := 4) U181 rfl rfl ti179 (by decide))) ?_; clear hs; (try clear a w); intro a w hs)
    refine sy hs (y_ld rfl U179 rfl (Cell.blk hgX zvc)) fun _ _ hs => ?_
    refine sy hs (za3 rfl) fun _ _ hs => ?_
    refine sy hs (zac (m := m) (Rd.st hs hrX) rfl rfl rfl hmr U179 ti178) fun _ _ hs => ?_
    refine sy hs (zbm (i := m) (j := 0) (Rd.st hs hrX) rfl hr rfl U178 rfl) fun _ _ hs => ?_
    refine sy hs (za9 rfl) fun _ _ hs => ?_
    refine za0 ?_
    refine hK18 _ _ ?_; clear hK18
    refine zai fun K19 hK19 => ?_
    refine za2 ?_
    refine sy hs (za3 rfl) fun _ _ hs => ?_
    refine sy hs (zhb (lo := 1) (hi := s'.size) rfl rfl U9 (.inr ⟨_, rfl, rfl⟩) (.inl ⟨rfl, rfl⟩) hs1 (Nat.le_refl _)) fun _ _ hs => ?_
    refine sy hs (za9 rfl) fun _ _ hs => ?_
    refine za0 ?_
    refine hK19 _ _ ?_; clear hK19
    refine za2 ?_
    refine sy hs (za3 rfl) fun _ _ hs => ?_
    refine sy hs (zdz rfl rfl (zg4 (by omega))) fun _ _ hs => ?_
    refine sy hs (za9 rfl) fun _ _ hs => ?_
    refine za0 ?_
    rcases hA with ⟨h1, h2⟩ | ⟨h1, n2, h2, h3⟩
    · subst h1
      exact hK 2 _ _ (by omega) ⟨_, _, _, .inr (.inr ⟨rfl, rfl, zup, h2⟩), hs.sub ⟨rfl, rfl, rfl, rfl, rfl, rfl, rfl, rfl, rfl, trivial⟩⟩
    · exact hK 1 _ _ (by omega) ⟨_, _, _, .inr (.inl ⟨rfl, rfl, rfl, rfl, h1, n2, h2, h3⟩), hs.sub ⟨rfl, rfl, rfl, rfl, rfl, rfl, rfl, rfl, rfl, trivial⟩⟩
  · by_cases hk1 : k = 1
    · obtain ⟨rfl, rfl, rfl, hrn, n2, h2, h3⟩ : x = n1 ∧ s' = s.extract 1 s.size ∧ nn = 1 ∧ rest ≠ bs [] ∧ ∃ n2, Ent.blk n1 (.cells (node (bs []) 0 rest (pq n2 0) (.slice none 0 0)) 181 (0,0)) ∈ LX ∧ Ent.blk n2 (.cells (leafA val pr) 181 (0,0)) ∈ LX := by
        rcases hS with ⟨h, _⟩ | ⟨_, h⟩ | ⟨h, _⟩
        · omega
        · exact h
        · omega
      have h2X := List.mem_append_left L h2
      refine zai fun K20 hK20 => ?_
      refine zai fun K21 hK21 => ?_
      refine za2 ?_
      refine sy hs (za3 rfl) fun _ _ hs => ?_
      refine sy hs (zph rfl rfl U178) fun _ _ hs => ?_
      refine za0 ?_
      refine hK21 _ _ ?_; clear hK21
      refine zdq hs rfl ?_
      refine zaj ?_
      refine hK20 _ _ ?_; clear hK20
      refine zam fun Qe22 hB22 hO22 => ?_
      refine zai fun K23 hK23 => ?_
      refine zai fun K24 hK24 => ?_
      refine za2 ?_
      refine sy hs (za3 rfl) fun _ _ hs => ?_
      first | (refine sy hs (za5 rfl) ?_; clear hs; (try clear a w); intro a w hs) | (refine sy hs (y_nilE rfl) ?_; clear hs; (try clear a w); intro a w hs)
      first | (refine sy hs (za1 rfl (FO.of (off := 1) U181 rfl rfl ti3 (by decide))) ?_; clear hs; (try clear a w); intro a w hs) | (refine sy hs (y_faE rfl (FO.of (off := 1) U181 rfl rfl ti3 (by decide))) ?_; clear hs; (try clear a w); intro a w hs)
      refine sy hs (y_ld (u := .int .i64 0) rfl U3 rfl (Cell.blk h2X rfl)) fun _ _ hs => ?_
      refine sy hs (za3 rfl) fun _ _ hs => ?_
      refine sy hs (zhq rfl rfl) fun _ _ hs => ?_
      rw [show decide ((0 : Int) < 0) = false from rfl] at hs
      refine sy hs (za3 rfl) fun _ _ hs => ?_
      refine sno hs fun _ _ hs => ?_
      refine sno hs fun _ _ hs => ?_
      refine sun hs fun _ _ hs => ?_
      refine sun hs fun _ _ hs => ?_
      refine sun hs fun _ _ hs => ?_
      refine sun hs fun _ _ hs => ?_
      refine sun hs fun _ _ hs => ?_
      refine sno hs fun _ _ hs => ?_
      refine sno hs fun _ _ hs => ?_
      refine sy hs (zaz rfl rfl) fun _ _ hs => ?_
      refine za0 ?_
      refine hK24 _ _ ?_; clear hK24
      refine zdj hs rfl ?_
      refine zaj ?_
      refine hK23 _ _ ?_; clear hK23
      refine zai fun K25 hK25 => ?_
      refine zai fun K26 hK26 => ?_
      refine za2 ?_
      refine sy hs (za3 rfl) fun _ _ hs => ?_
      refine sy hs (zcs rfl rfl) fun _ _ hs => ?_
      refine za0 ?_
      refine hK26 _ _ ?_; clear hK26
      first | refine zho hs rfl (fun he => ?_) (fun he => ?_) | refine zah hs rfl (fun he => ?_) (fun he => ?_)
      · refine zc0 ?_
        refine hO22 _ rfl _ _ ?_
        refine hB6 _ _ ?_
        refine hK5 _ _ ?_; clear hK5
        refine zax ?_
        refine Rt_3 hs rfl rfl rfl rfl ?_
        exact ⟨by rw [lkV, he, show (⟨#[]⟩ : ByteArray) = bs [] from rfl, not_pfx hrn]; rfl, hs.cw⟩
      · refine zaj ?_
        refine hK25 _ _ ?_; clear hK25
        refine zai fun K27 hK27 => ?_
        refine za2 ?_
        refine sy hs (za3 rfl) fun _ _ hs => ?_
        first | (refine sy hs (za5 rfl) ?_; clear hs; (try clear a w); intro a w hs) | (refine sy hs (y_nilE rfl) ?_; clear hs; (try clear a w); intro a w hs)
        first | (refine sy hs (za1 rfl (FO.of (off := 4) U181 rfl rfl ti179 (by decide))) ?_; clear hs; (try clear a w); intro a w hs) | (refine sy hs (y_faE rfl (FO.of (off := 4) U181 rfl rfl ti179 (by decide))) ?_; clear hs; (try clear a w); intro a w hs)
        refine sy hs (y_ld (u := .slice none 0 0) rfl U179 rfl (Cell.blk h2X rfl)) fun _ _ hs => ?_
        refine sy hs (znh rfl U179) fun _ _ hs => ?_
        refine za0 ?_
        refine hK27 _ _ ?_; clear hK27
        refine zdj hs rfl ?_
        refine zai fun K28 hK28 => ?_
        refine za2 ?_
        refine sy hs (za3 rfl) fun _ _ hs => ?_
        first | (refine sy hs (za5 rfl) ?_; clear hs; (try clear a w); intro a w hs) | (refine sy hs (y_nilE rfl) ?_; clear hs; (try clear a w); intro a w hs)
        first | (refine sy hs (za1 rfl (FO.of (off := 2) U181 rfl rfl ti9 (by decide))) ?_; clear hs; (try clear a w); intro a w hs) | (refine sy hs (y_faE rfl (FO.of (off := 2) U181 rfl rfl ti9 (by decide))) ?_; clear hs; (try clear a w); intro a w hs)
        refine sy hs (y_ld (u := .string rest) rfl U9 rfl (Cell.blk h2X rfl)) fun _ _ hs => ?_
        refine sy hs (zhr rfl rfl) fun _ _ hs => ?_
        rw [decide_eq_true (show rest ≠ ⟨#[]⟩ from hrn)] at hs
        refine sy hs (za3 rfl) fun _ _ hs => ?_
        refine syg hs (za3 rfl) fun _ _ hs => ?_
        refine syg hs (za3 rfl) fun _ _ hs => ?_
        first | (refine syg hs (za5 rfl) ?_; clear hs; (try clear a w); intro a w hs) | (refine syg hs (y_nilE rfl) ?_; clear hs; (try clear a w); intro a w hs)
        first | (refine syg hs (za1 rfl (FO.of (off := 2) U181 rfl rfl ti9 (by decide))) ?_; clear hs; (try clear a w); intro a w hs) | (refine syg hs (y_faE rfl (FO.of (off := 2) U181 rfl rfl ti9 (by decide))) ?_; clear hs; (try clear a w); intro a w hs)
        refine syg hs (y_ld (u := .string rest) rfl U9 rfl (Cell.blk h2X rfl)) fun _ _ hs => ?_
        refine syg hs (zbi rfl has103 rfl pfx_ok) fun _ _ hs => ?_
        refine sy hs (zaz rfl rfl) fun _ _ hs => ?_
        refine za0 ?_
        refine hK28 _ _ ?_; clear hK28
        first | refine zho hs rfl (fun hp => ?_) (fun hp => ?_) | refine zah hs rfl (fun hp => ?_) (fun hp => ?_)
        · refine zai fun K29 hK29 => ?_
          refine za2 ?_
          refine sy hs (za3 rfl) fun _ _ hs => ?_
          refine sy hs (za3 rfl) fun _ _ hs => ?_
          first | (refine sy hs (za5 rfl) ?_; clear hs; (try clear a w); intro a w hs) | (refine sy hs (y_nilE rfl) ?_; clear hs; (try clear a w); intro a w hs)
          first | (refine sy hs (za1 rfl (FO.of (off := 2) U181 rfl rfl ti9 (by decide))) ?_; clear hs; (try clear a w); intro a w hs) | (refine sy hs (y_faE rfl (FO.of (off := 2) U181 rfl rfl ti9 (by decide))) ?_; clear hs; (try clear a w); intro a w hs)
          refine sy hs (y_ld (u := .string rest) rfl U9 rfl (Cell.blk h2X rfl)) fun _ _ hs => ?_
          refine sy hs (zg2 rfl U9) fun _ _ hs => ?_
          refine sy hs (zdz rfl rfl (zg4 (by omega))) fun _ _ hs => ?_
          refine sy hs (za9 rfl) fun _ _ hs => ?_
          refine za0 ?_
          refine hK29 _ _ ?_; clear hK29
          refine zai fun K30 hK30 => ?_
          refine za2 ?_
          refine sy hs (za3 rfl) fun _ _ hs => ?_
          refine sy hs (za3 rfl) fun _ _ hs => ?_
          first | (refine sy hs (za5 rfl) ?_; clear hs; (try clear a w); intro a w hs) | (refine sy hs (y_nilE rfl) ?_; clear hs; (try clear a w); intro a w hs)
          first | (refine sy hs (za1 rfl (FO.of (off := 2) U181 rfl rfl ti9 (by decide))) ?_; clear hs; (try clear a w); intro a w hs) | (refine sy hs (y_faE rfl (FO.of (off := 2) U181 rfl rfl ti9 (by decide))) ?_; clear hs; (try clear a w); intro a w hs)
          refine sy hs (y_ld (u := .string rest) rfl U9 rfl (Cell.blk h2X rfl)) fun _ _ hs => ?_
          refine sy hs (zg2 rfl U9) fun _ _ hs => ?_
          refine sy hs (zhb (lo := rest.size) (hi := (s.extract 1 s.size).size) rfl rfl U9 (.inr ⟨_, rfl, rfl⟩) (.inl ⟨rfl, rfl⟩) (zpt hp).1 (Nat.le_refl _)) fun _ _ hs => ?_
          refine sy hs (za9 rfl) fun _ _ hs => ?_
          refine za0 ?_
          refine hK30 _ _ ?_; clear hK30
          refine za2 ?_
          refine sy hs (za3 rfl) fun _ _ hs => ?_
          first | (refine sy hs (za5 rfl) ?_; clear hs; (try clear a w); intro a w hs) | (refine sy hs (y_nilE rfl) ?_; clear hs; (try clear a w); intro a w hs)
          first | (refine sy hs (za1 rfl (FO.of (off := 3) U181 rfl rfl ti178 (by decide))) ?_; clear hs; (try clear a w); intro a w hs) | (refine sy hs (y_faE rfl (FO.of (off := 3) U181 rfl rfl ti178 (by decide))) ?_; clear hs; (try clear a w); intro a w hs)
          refine sy hs (y_ld (u := pq n2 0) rfl U178 rfl (Cell.blk h2X rfl)) fun _ _ hs => ?_
          refine sy hs (za9 rfl) fun _ _ hs => ?_
          refine za0 ?_
          exact hK 2 _ _ (by omega) ⟨_, _, _, .inr (.inr ⟨rfl, rfl, hp, h3⟩), hs.sub ⟨rfl, rfl, rfl, rfl, rfl, rfl, rfl, rfl, rfl, trivial⟩⟩
        · refine zc0 ?_
          refine hO22 _ rfl _ _ ?_
          refine hB6 _ _ ?_
          refine hK5 _ _ ?_; clear hK5
          refine zax ?_
          refine Rt_3 hs rfl rfl rfl rfl ?_
          exact ⟨by rw [lkV, hp]; rfl, hs.cw⟩
    · obtain ⟨rfl, hp, h3⟩ : nn = 1 + (rest.size : Int) ∧ pfx (s.extract 1 s.size) rest = true ∧ Ent.blk x (.cells (leafA val pr) 181 (0,0)) ∈ LX := by
        rcases hS with ⟨h, _⟩ | ⟨h, _⟩ | ⟨_, h⟩
        · omega
        · omega
        · exact h
      have h3X := List.mem_append_left L h3
      refine zai fun K31 hK31 => ?_
      refine zai fun K32 hK32 => ?_
      refine za2 ?_
      refine sy hs (za3 rfl) fun _ _ hs => ?_
      refine sy hs (zph rfl rfl U178) fun _ _ hs => ?_
      refine za0 ?_
      refine hK32 _ _ ?_; clear hK32
      refine zdq hs rfl ?_
      refine zaj ?_
      refine hK31 _ _ ?_; clear hK31
      refine zam fun Qe33 hB33 hO33 => ?_
      refine zai fun K34 hK34 => ?_
      refine zai fun K35 hK35 => ?_
      refine za2 ?_
      refine sy hs (za3 rfl) fun _ _ hs => ?_
      first | (refine sy hs (za5 rfl) ?_; clear hs; (try clear a w); intro a w hs) | (refine sy hs (y_nilE rfl) ?_; clear hs; (try clear a w); intro a w hs)
      first | (refine sy hs (za1 rfl (FO.of (off := 1) U181 rfl rfl ti3 (by decide))) ?_; clear hs; (try clear a w); intro a w hs) | (refine sy hs (y_faE rfl (FO.of (off := 1) U181 rfl rfl ti3 (by decide))) ?_; clear hs; (try clear a w); intro a w hs)
      refine sy hs (y_ld (u := .int .i64 pr) rfl U3 rfl (Cell.blk h3X rfl)) fun _ _ hs => ?_
      refine sy hs (za3 rfl) fun _ _ hs => ?_
      refine sy hs (zhq rfl rfl) fun _ _ hs => ?_
      rw [decide_eq_true (show (0 : Int) < pr from hpr)] at hs
      refine sy hs (za3 rfl) fun _ _ hs => ?_
      refine syg hs (za3 rfl) fun _ _ hs => ?_
      refine syg hs (za3 rfl) fun _ _ hs => ?_
      refine sno hs fun _ _ hs => ?_
      refine sno hs fun _ _ hs => ?_
      refine sno hs fun _ _ hs => ?_
      refine sno hs fun _ _ hs => ?_
      refine sno hs fun _ _ hs => ?_
      refine syg hs (zaz rfl rfl) fun _ _ hs => ?_
      refine syg hs (zfc rfl) fun _ _ hs => ?_
      refine sy hs (zaz rfl rfl) fun _ _ hs => ?_
      refine za0 ?_
      refine hK35 _ _ ?_; clear hK35
      refine zdq hs rfl ?_
      refine zai fun K36 hK36 => ?_
      refine za2 ?_
      refine sy hs (za3 rfl) fun _ _ hs => ?_
      first | (refine sy hs (za5 rfl) ?_; clear hs; (try clear a w); intro a w hs) | (refine sy hs (y_nilE rfl) ?_; clear hs; (try clear a w); intro a w hs)
      first | (refine sy hs (za1 rfl (FO.of (off := 1) U181 rfl rfl ti3 (by decide))) ?_; clear hs; (try clear a w); intro a w hs) | (refine sy hs (y_faE rfl (FO.of (off := 1) U181 rfl rfl ti3 (by decide))) ?_; clear hs; (try clear a w); intro a w hs)
      refine sy hs (y_ld (u := .int .i64 pr) rfl U3 rfl (Cell.blk h3X rfl)) fun _ _ hs => ?_
      refine sy hs (za9 rfl) fun _ _ hs => ?_
      refine za0 ?_
      refine hK36 _ _ ?_; clear hK36
      refine zai fun K37 hK37 => ?_
      refine za2 ?_
      refine sy hs (za3 rfl) fun _ _ hs => ?_
      first | (refine sy hs (za5 rfl) ?_; clear hs; (try clear a w); intro a w hs) | (refine sy hs (y_nilE rfl) ?_; clear hs; (try clear a w); intro a w hs)
      first | (refine sy hs (za1 rfl (FO.of (off := 0) U181 rfl rfl ti9 (by decide))) ?_; clear hs; (try clear a w); intro a w hs) | (refine sy hs (y_faE rfl (FO.of (off := 0) U181 rfl rfl ti9 (by decide))) ?_; clear hs; (try clear a w); intro a w hs)
      refine sy hs (y_ld (u := .string val) rfl U9 rfl (Cell.blk h3X rfl)) fun _ _ hs => ?_
      refine sy hs (za9 rfl) fun _ _ hs => ?_
      refine za0 ?_
      refine hK37 _ _ ?_; clear hK37
      refine zai fun K38 hK38 => ?_
      refine za2 ?_
      refine sy hs (za3 rfl) fun _ _ hs => ?_
      refine sy hs (za9 rfl) fun _ _ hs => ?_
      refine za0 ?_
      refine hK38 _ _ ?_; clear hK38
      refine za2 ?_
      refine sy hs (za9 rfl) fun _ _ hs => ?_
      refine za0 ?_
      refine hK34 _ _ ?_; clear hK34
      refine zai fun K39 hK39 => ?_
      refine zai fun K40 hK40 => ?_
      refine za2 ?_
      refine sy hs (za3 rfl) fun _ _ hs => ?_
      refine sy hs (zcs rfl rfl) fun _ _ hs => ?_
      refine za0 ?_
      refine hK40 _ _ ?_; clear hK40
      first | refine zho hs rfl (fun he => ?_) (fun he => ?_) | refine zah hs rfl (fun he => ?_) (fun he => ?_)
      · refine zc0 ?_
        refine hO33 _ rfl _ _ ?_
        refine hB6 _ _ ?_
        refine hK5 _ _ ?_; clear hK5
        refine zax ?_
        refine Rt_3 hs rfl rfl rfl rfl ?_
        exact ⟨by rw [lkV, if_pos hp], hs.cw⟩
      · refine zaj ?_
        refine hK39 _ _ ?_; clear hK39
        refine zai fun K41 hK41 => ?_
        refine za2 ?_
        refine sy hs (za3 rfl) fun _ _ hs => ?_
        first | (refine sy hs (za5 rfl) ?_; clear hs; (try clear a w); intro a w hs) | (refine sy hs (y_nilE rfl) ?_; clear hs; (try clear a w); intro a w hs)
        first | (refine sy hs (za1 rfl (FO.of (off := 4) U181 rfl rfl ti179 (by decide))) ?_; clear hs; (try clear a w); intro a w hs) | (refine sy hs (y_faE rfl (FO.of (off := 4) U181 rfl rfl ti179 (by decide))) ?_; clear hs; (try clear a w); intro a w hs)
        refine sy hs (y_ld (u := .slice none 0 0) rfl U179 rfl (Cell.blk h3X rfl)) fun _ _ hs => ?_
        refine sy hs (znh rfl U179) fun _ _ hs => ?_
        refine za0 ?_
        refine hK41 _ _ ?_; clear hK41
        refine zdj hs rfl ?_
        refine zai fun K42 hK42 => ?_
        refine za2 ?_
        refine sy hs (za3 rfl) fun _ _ hs => ?_
        first | (refine sy hs (za5 rfl) ?_; clear hs; (try clear a w); intro a w hs) | (refine sy hs (y_nilE rfl) ?_; clear hs; (try clear a w); intro a w hs)
        first | (refine sy hs (za1 rfl (FO.of (off := 2) U181 rfl rfl ti9 (by decide))) ?_; clear hs; (try clear a w); intro a w hs) | (refine sy hs (y_faE rfl (FO.of (off := 2) U181 rfl rfl ti9 (by decide))) ?_; clear hs; (try clear a w); intro a w hs)
        refine sy hs (y_ld (u := .string (bs [])) rfl U9 rfl (Cell.blk h3X rfl)) fun _ _ hs => ?_
        refine sy hs (zhr rfl rfl) fun _ _ hs => ?_
        rw [decide_eq_false (show ¬ bs [] ≠ ⟨#[]⟩ from fun h => h rfl)] at hs
        refine sy hs (za3 rfl) fun _ _ hs => ?_
        refine sno hs fun _ _ hs => ?_
        refine sno hs fun _ _ hs => ?_
        refine sno hs fun _ _ hs => ?_
        refine sno hs fun _ _ hs => ?_
        refine sno hs fun _ _ hs => ?_
        refine sno hs fun _ _ hs => ?_
        refine sy hs (zaz rfl rfl) fun _ _ hs => ?_
        refine za0 ?_
        refine hK42 _ _ ?_; clear hK42
        refine zdj hs rfl ?_
        refine zc0 ?_
        refine hO33 _ rfl _ _ ?_
        refine hB6 _ _ ?_
        refine hK5 _ _ ?_; clear hK5
        refine zax ?_
        refine Rt_3 hs rfl rfl rfl rfl ?_
        exact ⟨by rw [lkV, if_pos hp], hs.cw⟩
end
section
open Go.RowKit Go.Sl
theorem m219 {wb : Nat} (w : World) : (method (Tryz.prog.types.size + Made.depth) 219 (pq wb 0) "WriteString").run Tryz.prog w = .ok (177, pq wb 0) w := by kernel_rfl
theorem n219 {wb : Nat} (w : World) : (nilAhead (Tryz.prog.types.size + Made.depth) 219 (pq wb 0) "WriteString").run Tryz.prog w = .ok (some false) w := by kernel_rfl
theorem m159 {wb : Nat} (w : World) : (method (Tryz.prog.types.size + Made.depth) 159 (pq wb 0) "Replace").run Tryz.prog w = .ok (164, pq wb 0) w := by kernel_rfl
theorem zh7 (s : ByteArray) (a b : Nat) : bytesIn (s.extract a b) = ((bytesIn s).drop a).take (b - a) := by
  unfold bytesIn
  rw [ByteArray.data_extract, Array.toList_extract, List.extract_eq_take_drop, List.map_take, List.map_drop]
theorem zo2 {s : ByteArray} {i : Nat} {c : Int} (hc : (bytesIn s)[i]? = some c) : (bytesIn s).drop i = c :: (bytesIn s).drop (i + 1) := by
  obtain ⟨h, rfl⟩ := List.getElem?_eq_some_iff.1 hc
  exact List.drop_eq_getElem_cons h
theorem bytes1 (c : UInt8) : bytesIn (bs [c]) = [(c.toNat : Int)] := rfl
theorem pfx160 {s : ByteArray} {i : Nat} : pfx ((s.extract i s.size).extract 1 (s.extract i s.size).size) (bs [160]) = true ↔ (bytesIn s)[i + 1]? = some 160 := by
  have e : bytesIn ((s.extract i s.size).extract 1 (s.extract i s.size).size) = (bytesIn s).drop (i + 1) := by
    rw [zh7, zh7, List.take_of_length_le (l := (bytesIn s).drop i) (by rw [List.length_drop, zak]; exact Nat.le_refl _), List.drop_drop, List.take_of_length_le]
    rw [List.length_drop, zak, ByteArray.size_extract]; omega
  have inj : ∀ {a b : ByteArray}, bytesIn a = bytesIn b → a = b := fun {a b} h => by
    rw [← zf9 a, h, zf9]
  constructor
  · intro h
    obtain ⟨_, h2⟩ := zpt h
    have h3 := congrArg bytesIn h2
    rw [zh7, e, List.drop_zero, show (bs [160]).size - 0 = 1 from rfl, bytes1] at h3
    have h4 : (((bytesIn s).drop (i + 1)).take 1)[0]? = some 160 := by rw [h3]; rfl
    rw [List.getElem?_take_of_lt (by omega), List.getElem?_drop] at h4
    exact h4
  · intro h
    have hd := zo2 h
    have hl : 1 ≤ ((s.extract i s.size).extract 1 (s.extract i s.size).size).size := by
      rw [← zak, e, hd]; simp
    unfold pfx
    rw [decide_eq_true (show (bs [160]).size ≤ _ from hl), Bool.true_and, decide_eq_true]
    apply inj
    rw [zh7, e, hd]; rfl
theorem zt1 {q : Bool} {s : ByteArray} {i : Nat} {c : Int} (hc : (bytesIn s)[i]? = some c) (h1 : oneB q c = [c]) (h2 : ¬(c = 194 ∧ (bytesIn s)[i + 1]? = some 160)) : escA q false ((bytesIn s).drop i) = c :: escA q false ((bytesIn s).drop (i + 1)) := by
  rw [zo2 hc, zl2, h1]; · rfl
  rw [List.head?_drop]; exact h2
theorem zrh {q : Bool} {s : ByteArray} {i c : Nat} (hc : (bytesIn s)[i]? = some (c : Int)) (h : c ∉ specB q) : escA q false ((bytesIn s).drop i) = (c : Int) :: escA q false ((bytesIn s).drop (i + 1)) :=
  zt1 hc (zr4 h).1 fun e => (zr4 h).2 (by have := e.1; omega)
theorem zv1 {q : Bool} {s key val : ByteArray} {i c p : Nat} (hH : HitAt q c p key val) (hc : (bytesIn s)[i]? = some (c : Int)) (hp : pfx ((s.extract i s.size).extract 1 (s.extract i s.size).size) (key.extract 1 key.size) = false) : escA q false ((bytesIn s).drop i) = (c : Int) :: escA q false ((bytesIn s).drop (i + 1)) := by
  rcases hH.is with ⟨_, rfl, _⟩ | ⟨rfl, rfl, _, h1⟩
  · rw [show (bs [UInt8.ofNat c]).extract 1 (bs [UInt8.ofNat c]).size = bs [] from rfl, zup] at hp
    cases hp
  · refine zt1 hc h1 fun e => ?_
    rw [show (bs [194,160]).extract 1 (bs [194,160]).size = bs [160] from rfl, pfx160.2 e.2] at hp
    cases hp
theorem hit_step {q : Bool} {s key val : ByteArray} {i c p : Nat} (hH : HitAt q c p key val) (hc : (bytesIn s)[i]? = some (c : Int)) (hp : pfx ((s.extract i s.size).extract 1 (s.extract i s.size).size) (key.extract 1 key.size) = true) :
    i + (1 + (key.extract 1 key.size).size) ≤ s.size ∧ escA q false ((bytesIn s).drop i) = bytesIn val ++ escA q false ((bytesIn s).drop (i + (1 + (key.extract 1 key.size).size))) := by
  have hi := (List.getElem?_eq_some_iff.1 hc).1
  rw [zak] at hi
  rcases hH.is with ⟨h0, rfl, h1⟩ | ⟨rfl, rfl, h1, _⟩
  · rw [show (bs [UInt8.ofNat c]).extract 1 (bs [UInt8.ofNat c]).size = bs [] from rfl, show (bs []).size = 0 from rfl, Nat.add_zero]
    refine ⟨hi, ?_⟩
    rw [zo2 hc, zl2, h1]
    rintro ⟨e, _⟩
    omega
  · rw [show (bs [194,160]).extract 1 (bs [194,160]).size = bs [160] from rfl] at hp ⊢
    have h2 := pfx160.1 hp
    have hi2 := (List.getElem?_eq_some_iff.1 h2).1
    rw [zak] at hi2
    rw [show (bs [160]).size = 1 from rfl]
    refine ⟨hi2, ?_⟩
    rw [zo2 hc, zo2 h2, h1]
    exact zq8 q _
def WInv (q : Bool) (s : ByteArray) (i last : Nat) (B : List Int) : Prop := last ≤ i ∧ i ≤ s.size + 1 ∧ last ≤ s.size ∧ escA q false (bytesIn s) = B ++ (((bytesIn s).drop last).take (i - last) ++ escA q false ((bytesIn s).drop i))
section
variable {q : Bool} {s : ByteArray} {i last k : Nat} {B V : List Int} {c : Int}
theorem WInv.step (h : WInv q s i last B) (hc : (bytesIn s)[i]? = some c) (he : escA q false ((bytesIn s).drop i) = c :: escA q false ((bytesIn s).drop (i + 1))) : WInv q s (i + 1) last B := by
  obtain ⟨h1, h2, h3, h4⟩ := h
  have hi := (List.getElem?_eq_some_iff.1 hc).1
  rw [zak] at hi
  refine ⟨by omega, by omega, h3, ?_⟩
  rw [h4, he, show i + 1 - last = (i - last) + 1 by omega, List.take_add_one, List.getElem?_drop, show last + (i - last) = i by omega, hc]
  simp
theorem WInv.hit (h : WInv q s i last B) (hk : i + k ≤ s.size) (he : escA q false ((bytesIn s).drop i) = V ++ escA q false ((bytesIn s).drop (i + k))) : WInv q s (i + k) (i + k) (B ++ bytesIn (s.extract last i) ++ V) := by
  obtain ⟨h1, h2, h3, h4⟩ := h
  refine ⟨Nat.le_refl _, by omega, hk, ?_⟩
  rw [h4, he, zh7, Nat.sub_self]
  simp
theorem WInv.fin (h : WInv q s s.size last B) : WInv q s (s.size + 1) last B := by
  obtain ⟨h1, h2, h3, h4⟩ := h
  refine ⟨by omega, by omega, h3, ?_⟩
  rw [h4, List.drop_eq_nil_of_le (i := s.size) (by rw [zak]; exact Nat.le_refl _), List.drop_eq_nil_of_le (i := s.size + 1) (by rw [zak]; omega), List.take_of_length_le (i := s.size - last), List.take_of_length_le (i := s.size + 1 - last)]
  · rw [List.length_drop, zak]; omega
  · rw [List.length_drop, zak]; omega
theorem WInv.out (h : WInv q s (s.size + 1) last B) : escA q false (bytesIn s) = B ++ bytesIn (s.extract last s.size) := by
  obtain ⟨h1, h2, h3, h4⟩ := h
  rw [h4, zh7, List.drop_eq_nil_of_le (i := s.size + 1) (by rw [zak]; omega), List.take_of_length_le (i := s.size - last), List.take_of_length_le (i := s.size + 1 - last)]
  · simp [escA]
  · rw [List.length_drop, zak]; omega
  · rw [List.length_drop, zak]; omega
theorem WInv.len (h : WInv q s i last B) : B.length ≤ 6 * s.size := by
  have := zk5 q (bytesIn s) false
  rw [h.2.2.2, zak, List.length_append] at this
  omega
end
end
end Go.Proofs.YtpfdbeafdjnbnaaGreatDoor
