/-
  Walks and laws of this seat.
-/
import Derived.Test.YtpfdbeafdjnbnaaGreatDoorX13
import Derived.Test.YtpfdbeafdjnbnaaGreatDoorRows
namespace Go.Proofs.YtpfdbeafdjnbnaaGreatDoor
set_option linter.unusedVariables false
set_option linter.unusedSimpArgs false
set_option linter.unusedSectionVars false
section
open Go.RowKit Go.Sl
theorem ztq {l : List Int} {M : List Int} {j : Nat} {c : Int} (h : l[j]? = some c) : markB M (l.take (j + 1)) = (markB M (l.take j)).set c.toNat 1 := by
  obtain ⟨hj, hc⟩ := List.getElem?_eq_some_iff.1 h
  rw [List.take_succ_eq_append_getElem hj, hc]
  unfold markB
  rw [List.foldl_append]; rfl
theorem zvl {s : ByteArray} {j : Nat} (h : j < s.size) : ∃ c : Nat, c < 256 ∧ getS s (j : Int) = some (c : Int) ∧ (bytesIn s)[j]? = some (c : Int) := by
  have hl : j < s.data.toList.length := by simpa using h
  have e : (bytesIn s)[j]? = some ((s.data.toList[j].toNat : Nat) : Int) := by
    unfold bytesIn
    rw [List.getElem?_map, List.getElem?_eq_getElem hl]; rfl
  refine ⟨s.data.toList[j].toNat, UInt8.toNat_lt _, ?_, e⟩
  unfold getS geti
  rw [if_pos (by omega), Int.toNat_natCast, e]
theorem permX {α : Type} (X G R : List α) : (X ++ (G ++ R)).Perm (G ++ (X ++ R)) := by
  rw [← List.append_assoc, ← List.append_assoc]
  exact List.perm_append_comm.append_right _
def NodeAt (Ls : List Ent) (n1 : Nat) (rest val : ByteArray) (pr : Int) : Prop :=
  (rest = bs [] ∧ Ent.blk n1 (.cells (node val pr (bs []) (.pointer none) (.slice none 0 0)) 181 (0,0)) ∈ Ls) ∨
  (rest ≠ bs [] ∧ ∃ n2, Ent.blk n1 (.cells (node (bs []) 0 rest (pq n2 0) (.slice none 0 0)) 181 (0,0)) ∈ Ls ∧ Ent.blk n2 (.cells (node val pr (bs []) (.pointer none) (.slice none 0 0)) 181 (0,0)) ∈ Ls)
theorem NodeAt.mono {Ls Ls' : List Ent} {n1 : Nat} {rest val : ByteArray} {pr : Int} (h : NodeAt Ls n1 rest val pr) (hs : ∀ e ∈ Ls, e ∈ Ls') : NodeAt Ls' n1 rest val pr := by
  rcases h with ⟨h1, h2⟩ | ⟨h1, n2, h2, h3⟩
  · exact .inl ⟨h1, hs _ h2⟩
  · exact .inr ⟨h1, n2, hs _ h2, hs _ h3⟩
theorem add_rest {f : Fz} {gp : Value} {n1 : Nat} {rest val : ByteArray} {pr : Int} : Does Tryz.prog 113 [pq n1 0, .string rest, .string val, .int .i64 pr, gp] f [.blk n1 (.cells (node (bs []) 0 (bs []) (.pointer none) (.slice none 0 0)) 181 (0,0))] (fun _ f' L' => f' = f ∧ NodeAt L' n1 rest val pr) := by
  by_cases h : rest = bs []
  · subst h
    refine Does.mono (zvq (f := f)) fun _ f' L' ⟨h1, h2⟩ => ⟨h1, .inl ⟨rfl, ?_⟩⟩
    rw [h2]; exact .head _
  · refine Does.mono (add_one (f := f) h) fun _ f' L' ⟨h1, n2, h2⟩ => ⟨h1, .inr ⟨h, n2, ?_, ?_⟩⟩
    · rw [h2]; exact .tail _ (.head _)
    · rw [h2]; exact .head _
structure Tri (l : List ByteArray) (mf : Nat → Nat) (T : Nat) (p : Nat) (rows : List (List Value)) (Ls : List Ent) : Prop where
  len : rows.length = T
  free : ∀ m, m < T → (∀ q, q < p → mf q ≠ m) → rows[m]? = some [.pointer none]
  node : ∀ q, q < p → ∃ n1 key val, l[2 * q]? = some key ∧ l[2 * q + 1]? = some val ∧ rows[mf q]? = some [pq n1 0] ∧ NodeAt Ls n1 (key.extract 1 key.size) val (l.length - (2 * q : Nat))
set_option maxRecDepth 20000 in
set_option maxHeartbeats 8000000 in
theorem mkGen_ok {f : Fz} {a0 : Value} {l : List ByteArray} {w0 w : World} {L : List Ent} (h0 : RS tStr f a0 l) (hl : l.length ≤ 1000) (hsz : ∀ s ∈ l, s.size ≤ 1000000) (hev : l.length % 2 = 0) {mf : Nat → Nat} {T : Nat} {N : List Int} (hT0 : sumB (markL l (l.length / 2)) 256 = (T : Int)) (hT1 : T ≤ 256) (hN0 : (numB T (markL l (l.length / 2)) 256).1 = N)
    (hmf : ∀ p,2 * p < l.length → ∃ key c, l[2 * p]? = some key ∧ key ≠ bs [] ∧ 1 ≤ key.size ∧ getS key 0 = some ((c : Nat) : Int) ∧ c < 256 ∧ N[c]? = some (mf p : Int) ∧ mf p < T) (hinj : ∀ p q, p < q → 2 * q < l.length → mf p ≠ mf q) (hC : Cw w0 f L w) :
    Calls Tryz.prog 98 [a0].toArray w fun e w' => ∃ b tv rows Ls, e = .returned (pq b 0) ∧ Tri l mf T (l.length / 2) rows Ls ∧ Cw w0 f (.blk b (.cells (gcA tv T N) 183 (0,0)) :: .row tv 178 1 rows :: (Ls ++ L)) w' := by
  refine enter Tryz.func98 rfl Tryz.ntmps98 (by simp) hC fun a hs => ?_
  obtain ⟨rw0, hR0, hW0⟩ := h0
  have hlen := hW0.len
  refine zai fun K1 hK1 => ?_
  refine za2 ?_
  refine sy hs (za9 rfl) fun _ _ hs => ?_
  refine za0 ?_
  refine hK1 _ _ ?_; clear hK1
  refine zai fun K2 hK2 => ?_
  refine za2 ?_
  refine zbl hs ti183' (.free rfl) (by decide) fun b _ _ hs => ?_
  refine sy hs (za9 rfl) fun _ _ hs => ?_
  refine za0 ?_
  refine hK2 _ _ ?_; clear hK2
  refine zai fun K3 hK3 => ?_
  refine zai fun K4 hK4 => ?_
  refine za2 ?_
  refine sy hs (za9 rfl) fun _ _ hs => ?_
  refine za0 ?_
  refine hK4 _ _ ?_; clear hK4
  refine zam fun Qe5 hB5 hO5 => ?_
  refine zd1 (fun (k : Nat) a w => 2 * k ≤ l.length ∧ St 117 w0 f (.blk b (.cells (gcA (.slice none 0 0) 0 (markL l k)) 183 (0,0)) :: L) [(0, a0),(3, pq b 0),(4, .int .i64 ((2 * k : Nat) : Int))] a w) (fun k => l.length - 2 * k) 0 ⟨by omega, hs.sub ⟨rfl, rfl, rfl, trivial⟩⟩ ?_
  clear hs; rintro k a w ⟨hk, hs⟩ K hK
  refine zai fun K6 hK6 => ?_
  refine zai fun K7 hK7 => ?_
  refine za2 ?_
  refine sy hs (za3 rfl) fun _ _ hs => ?_
  refine sy hs (za3 rfl) fun _ _ hs => ?_
  refine sy hs (zli hR0 rfl U47) fun _ _ hs => ?_
  refine sy hs (zgq rfl rfl) fun _ _ hs => ?_
  refine za0 ?_
  refine hK7 _ _ ?_; clear hK7
  first | refine zho hs rfl (fun hlt => ?_) (fun hlt => ?_) | refine zah hs rfl (fun hlt => ?_) (fun hlt => ?_)
  · have hlt' : 2 * k < l.length := by
      have : ((2 * k : Nat) : Int) < ((rw0.length : Nat) : Int) := by simpa using hlt
      omega
    obtain ⟨s, hs0⟩ : ∃ s, l[2 * k]? = some s := ⟨_, List.getElem?_eq_getElem hlt'⟩
    obtain ⟨r, hr, hrs⟩ := hW0.get hs0
    have hss := hsz s (List.mem_of_getElem? hs0)
    obtain rfl : r = [.string s] := hrs
    refine zaj ?_
    refine hK6 _ _ ?_; clear hK6
    refine zai fun K8 hK8 => ?_
    refine zam fun Qe9 hB9 hO9 => ?_
    refine zai fun K10 hK10 => ?_
    refine za2 ?_
    refine sy hs (za3 rfl) fun _ _ hs => ?_
    refine sy hs (za3 rfl) fun _ _ hs => ?_
    refine sy hs (zac hR0 rfl rfl rfl (by omega) U47 ti9) fun _ _ hs => ?_
    refine sy hs (zbm (i := 2 * k) (j := 0) (hR0.up (L := _)) rfl hr rfl U9 rfl) fun _ _ hs => ?_
    refine sy hs (za9 rfl) fun _ _ hs => ?_
    refine za0 ?_
    refine hK10 _ _ ?_; clear hK10
    refine zai fun K11 hK11 => ?_
    refine za2 ?_
    refine sy hs (za9 rfl) fun _ _ hs => ?_
    refine za0 ?_
    refine hK11 _ _ ?_; clear hK11
    refine zam fun Qe12 hB12 hO12 => ?_
    refine zd1 (fun (j : Nat) a w => j ≤ s.size ∧ St 117 w0 f (.blk b (.cells (gcA (.slice none 0 0) 0 (markB (markL l k) ((bytesIn s).take j))) 183 (0,0)) :: L) [(0, a0),(3, pq b 0),(4, .int .i64 ((2 * k : Nat) : Int)),(5, .string s),(6, .int .i64 (j : Int))] a w) (fun j => s.size - j) 0 ⟨by omega, hs.sub ⟨rfl, rfl, rfl, rfl, rfl, trivial⟩⟩ ?_
    clear hs; rintro j a w ⟨hj, hs⟩ K' hK'
    refine zai fun K13 hK13 => ?_
    refine zai fun K14 hK14 => ?_
    refine za2 ?_
    refine sy hs (za3 rfl) fun _ _ hs => ?_
    refine sy hs (za3 rfl) fun _ _ hs => ?_
    refine sy hs (zg2 rfl U9) fun _ _ hs => ?_
    refine sy hs (zgq rfl rfl) fun _ _ hs => ?_
    refine za0 ?_
    refine hK14 _ _ ?_; clear hK14
    first | refine zho hs rfl (fun hlj => ?_) (fun hlj => ?_) | refine zah hs rfl (fun hlj => ?_) (fun hlj => ?_)
    · have hlj' : j < s.size := by
        have : ((j : Nat) : Int) < ((s.size : Nat) : Int) := by simpa using hlj
        omega
      obtain ⟨c, hc, hg, hb⟩ := zvl hlj'
      refine zaj ?_
      refine hK13 _ _ ?_; clear hK13
      refine zai fun K15 hK15 => ?_
      refine zam fun Qe16 hB16 hO16 => ?_
      refine zls hs ([]) [7] [(0, true),(1, true),(2, true),(3, true),(4, true),(5, true),(6, true),(7, false)] mixed (by kernel_rfl) fun _ he => ?_
      refine dy 0 he rfl (za3 rfl) fun _ he => ?_
      refine dy 1 he rfl (za3 rfl) fun _ he => ?_
      refine dy 2 he rfl (za3 rfl) fun _ he => ?_
      refine dy 3 he rfl (zoc rfl rfl U9 hg) fun _ he => ?_
      first | (refine dy 4 he rfl (za5 rfl) ?_; clear he; (try clear a); intro a he) | (refine dy 4 he rfl (y_nilE rfl) ?_; clear he; (try clear a); intro a he)
      first | (refine dy 5 he rfl (za1 rfl (FO.of (off := 6) U183 rfl rfl ti126 (by decide))) ?_; clear he; (try clear a); intro a he) | (refine dy 5 he rfl (y_faE rfl (FO.of (off := 6) U183 rfl rfl ti126 (by decide))) ?_; clear he; (try clear a); intro a he)
      refine dy 6 he rfl (zlj (j := c) rfl rfl U126 ti5 rfl hc) fun _ he => ?_
      refine zsp (i := 7) rfl he ?_; clear he; (try clear a); intro a w hs
      refine zda (i := 0) (o := 6 + c) (u := .int .u8 1) hs rfl (by rw [show 6 + c = 0 + 6 + c * 1 by omega]; rfl) rfl ti5 rfl (by rw [zne, znu, zm2]; omega) zse (.free rfl) fun _ _ hs => ?_
      refine dend hs fun _ he => ?_
      refine zso he ?_; clear he; (try clear a); intro w hs
      refine hK15 _ _ ?_; clear hK15
      refine za2 ?_
      refine sy hs (za3 rfl) fun _ _ hs => ?_
      refine sy hs (zdz rfl rfl (zg4 (by omega))) fun _ _ hs => ?_
      refine sy hs (za9 rfl) fun _ _ hs => ?_
      refine za0 ?_
      refine hK' (j + 1) _ _ (by omega) ⟨by omega, by rw [ztq hb, Int.toNat_natCast]; exact hs.sub ⟨rfl, rfl, rfl, rfl, rfl, trivial⟩⟩
    · have hjs : j = s.size := by
        have : ¬ ((j : Nat) : Int) < ((s.size : Nat) : Int) := by simpa using hlj
        omega
      rw [hjs, List.take_of_length_le (by rw [zak]; exact Nat.le_refl _)] at hs
      refine zc0 ?_
      refine hB12 _ _ ?_
      refine hK8 _ _ ?_; clear hK8
      refine za2 ?_
      refine sy hs (za3 rfl) fun _ _ hs => ?_
      refine sy hs (zdz rfl rfl (zg4 (by omega))) fun _ _ hs => ?_
      refine sy hs (za9 rfl) fun _ _ hs => ?_
      refine za0 ?_
      refine hK (k + 1) _ _ (by omega) ⟨by omega, by
        rw [show markL l (k + 1) = markB (markL l k) (bytesIn s) by rw [markL, hs0, Option.getD_some]]
        exact hs.sub ⟨rfl, rfl, rfl, trivial⟩⟩
  · obtain ⟨M, hM⟩ : ∃ M, M = markL l (l.length / 2) := ⟨_, rfl⟩
    have hML : M.length = 256 := by rw [hM]; exact zm2 _ _
    have hkl : k = l.length / 2 := by
      have : ¬ ((2 * k : Nat) : Int) < ((rw0.length : Nat) : Int) := by simpa using hlt
      omega
    rw [hkl, ← hM] at hs
    clear hK
    refine zc0 ?_
    refine hB5 _ _ ?_
    refine hK3 _ _ ?_; clear hK3
    refine zai fun K17 hK17 => ?_
    refine zai fun K18 hK18 => ?_
    refine za2 ?_
    refine sy hs (za3 rfl) fun _ _ hs => ?_
    first | (refine sy hs (za5 rfl) ?_; clear hs; (try clear a w); intro a w hs) | (refine sy hs (y_nilE rfl) ?_; clear hs; (try clear a w); intro a w hs)
    first | (refine sy hs (za1 rfl (FO.of (off := 6) U183 rfl rfl ti126 (by decide))) ?_; clear hs; (try clear a w); intro a w hs) | (refine sy hs (y_faE rfl (FO.of (off := 6) U183 rfl rfl ti126 (by decide))) ?_; clear hs; (try clear a w); intro a w hs)
    refine sy hs (y_ldP (cs := M.map fun x => Value.int .u8 x) rfl U126 rfl ti126 (.head _) (by simp [hML]) (by rw [show (0 + 6) = 6 from rfl, zt5, List.take_of_length_le (by simp [hML])])) fun _ _ hs => ?_
    refine sy hs (za3 rfl) fun _ _ hs => ?_
    refine za0 ?_
    refine hK18 _ _ ?_; clear hK18
    refine zam fun Qe19 hB19 hO19 => ?_
    refine zd1 (fun (i : Nat) a w => i ≤ 256 ∧ St 117 w0 f (.blk b (.cells (gcA (.slice none 0 0) (sumB M i) M) 183 (0,0)) :: L) [(0, a0),(3, pq b 0),(40, .agg (M.map fun x => Value.int .u8 x).toArray),(41, .int .i64 (i : Int))] a w) (fun i => 256 - i) 0 ⟨by omega, hs.sub ⟨rfl, rfl, rfl, rfl, trivial⟩⟩ ?_
    clear hs; rintro i a w ⟨hi, hs⟩ K hK
    refine zai fun K20 hK20 => ?_
    refine za2 ?_
    refine sy hs (zgq rfl rfl) fun _ _ hs => ?_
    refine za0 ?_
    refine hK20 _ _ ?_; clear hK20
    refine zai fun K21 hK21 => ?_
    first | refine zho hs rfl (fun hi2 => ?_) (fun hi2 => ?_) | refine zah hs rfl (fun hi2 => ?_) (fun hi2 => ?_)
    · have hi2' : i < 256 := by
        have : ((i : Nat) : Int) < 256 := by simpa using hi2
        omega
      obtain ⟨x, hx⟩ : ∃ x, M[i]? = some x := ⟨_, List.getElem?_eq_getElem (by omega)⟩
      refine zaj ?_
      refine hK21 _ _ ?_; clear hK21
      refine zai fun K22 hK22 => ?_
      refine zam fun Qe23 hB23 hO23 => ?_
      refine zai fun K24 hK24 => ?_
      refine za2 ?_
      refine sy hs (y_ixAV rfl rfl U126 U5 rfl ti5 rfl hi2' (by rw [List.getElem?_toArray, List.getElem?_map, hx]; rfl)) fun _ _ hs => ?_
      refine sy hs (za9 rfl) fun _ _ hs => ?_
      refine za0 ?_
      refine hK24 _ _ ?_; clear hK24
      refine za2 ?_
      refine sy hs (za3 rfl) fun _ _ hs => ?_
      first | (refine sy hs (za5 rfl) ?_; clear hs; (try clear a w); intro a w hs) | (refine sy hs (y_nilE rfl) ?_; clear hs; (try clear a w); intro a w hs)
      first | (refine sy hs (za1 rfl (FO.of (off := 5) U183 rfl rfl ti3 (by decide))) ?_; clear hs; (try clear a w); intro a w hs) | (refine sy hs (y_faE rfl (FO.of (off := 5) U183 rfl rfl ti3 (by decide))) ?_; clear hs; (try clear a w); intro a w hs)
      refine sy hs (y_ld rfl U3 rfl (Cell.blk (.head _) ztu)) fun _ _ hs => ?_
      refine sy hs (za3 rfl) fun _ _ hs => ?_
      refine sy hs (zs0 rfl (by rw [U5]; rfl) U3 rfl) fun _ _ hs => ?_
      refine sy hs (zdz rfl rfl rfl) fun _ _ hs => ?_
      first | (refine sy hs (za5 rfl) ?_; clear hs; (try clear a w); intro a w hs) | (refine sy hs (y_nilE rfl) ?_; clear hs; (try clear a w); intro a w hs)
      first | (refine sy hs (za1 rfl (FO.of (off := 5) U183 rfl rfl ti3 (by decide))) ?_; clear hs; (try clear a w); intro a w hs) | (refine sy hs (y_faE rfl (FO.of (off := 5) U183 rfl rfl ti3 (by decide))) ?_; clear hs; (try clear a w); intro a w hs)
      refine zda (i := 0) (o := 5) hs rfl rfl rfl ti3 rfl (by rw [zne]; omega) gcA_T (.free rfl) fun _ _ hs => ?_
      refine za0 ?_
      refine hK22 _ _ ?_; clear hK22
      refine za2 ?_
      refine sy hs (zdz rfl rfl (zg4 (by omega))) fun _ _ hs => ?_
      refine sy hs (za3 rfl) fun _ _ hs => ?_
      refine za0 ?_
      exact hK (i + 1) _ _ (by omega) ⟨by omega, by
        have e : sumB M (i + 1) = IntKind.i64.wrap (sumB M i + IntKind.i64.wrap x) := by rw [sumB, hx, Option.getD_some]
        rw [e]
        exact hs.sub ⟨rfl, rfl, rfl, rfl, trivial⟩⟩
    · have hi3 : i = 256 := by
        have : ¬ ((i : Nat) : Int) < 256 := by simpa using hi2
        omega
      rw [hi3] at hs
      rw [hM, hT0, ← hM] at hs
      clear hK
      refine zc0 ?_
      refine hB19 _ _ ?_
      refine hK17 _ _ ?_; clear hK17
      refine zai fun K25 hK25 => ?_
      refine za2 ?_
      refine sy hs (za9 rfl) fun _ _ hs => ?_
      refine za0 ?_
      refine hK25 _ _ ?_; clear hK25
      refine zai fun K26 hK26 => ?_
      refine zai fun K27 hK27 => ?_
      refine za2 ?_
      refine sy hs (za3 rfl) fun _ _ hs => ?_
      first | (refine sy hs (za5 rfl) ?_; clear hs; (try clear a w); intro a w hs) | (refine sy hs (y_nilE rfl) ?_; clear hs; (try clear a w); intro a w hs)
      first | (refine sy hs (za1 rfl (FO.of (off := 6) U183 rfl rfl ti126 (by decide))) ?_; clear hs; (try clear a w); intro a w hs) | (refine sy hs (y_faE rfl (FO.of (off := 6) U183 rfl rfl ti126 (by decide))) ?_; clear hs; (try clear a w); intro a w hs)
      refine sy hs (y_ldP (cs := M.map fun x => Value.int .u8 x) rfl U126 rfl ti126 (.head _) (by simp [hML]) (by rw [show (0 + 6) = 6 from rfl, zt5, List.take_of_length_le (by simp [hML])])) fun _ _ hs => ?_
      refine sy hs (za3 rfl) fun _ _ hs => ?_
      refine za0 ?_
      refine hK27 _ _ ?_; clear hK27
      refine zam fun Qe28 hB28 hO28 => ?_
      refine zd1 (fun (i : Nat) a w => i ≤ 256 ∧ St 117 w0 f (.blk b (.cells (gcA (.slice none 0 0) T (numB T M i).1) 183 (0,0)) :: L) [(0, a0),(3, pq b 0),(9, .int .u8 (numB T M i).2),(57, .agg (M.map fun x => Value.int .u8 x).toArray),(58, .int .i64 (i : Int))] a w) (fun i => 256 - i) 0 ⟨by omega, hs.sub ⟨rfl, rfl, rfl, rfl, rfl, trivial⟩⟩ ?_
      clear hs; rintro i a w ⟨hi, hs⟩ K hK
      refine zai fun K29 hK29 => ?_
      refine za2 ?_
      refine sy hs (zgq rfl rfl) fun _ _ hs => ?_
      refine za0 ?_
      refine hK29 _ _ ?_; clear hK29
      refine zai fun K30 hK30 => ?_
      first | refine zho hs rfl (fun hj2 => ?_) (fun hj2 => ?_) | refine zah hs rfl (fun hj2 => ?_) (fun hj2 => ?_)
      · have hi2' : i < 256 := by
          have : ((i : Nat) : Int) < 256 := by simpa using hj2
          omega
        obtain ⟨x, hx⟩ : ∃ x, M[i]? = some x := ⟨_, List.getElem?_eq_getElem (by omega)⟩
        have hgs : 6 + i < (gcA (.slice none 0 0) T (numB T M i).1).size := by rw [zne, zpx]; omega
        refine zaj ?_
        refine hK30 _ _ ?_; clear hK30
        refine zai fun K31 hK31 => ?_
        refine zam fun Qe32 hB32 hO32 => ?_
        refine zai fun K33 hK33 => ?_
        refine za2 ?_
        refine sy hs (za3 rfl) fun _ _ hs => ?_
        refine sy hs (y_ixAV rfl rfl U126 U5 rfl ti5 rfl hi2' (by rw [List.getElem?_toArray, List.getElem?_map, hx]; rfl)) fun _ _ hs => ?_
        refine sy hs (za9 rfl) fun _ _ hs => ?_
        refine sy hs (za9 rfl) fun _ _ hs => ?_
        refine za0 ?_
        refine hK33 _ _ ?_; clear hK33
        refine zai fun K34 hK34 => ?_
        refine za2 ?_
        refine sy hs (za3 rfl) fun _ _ hs => ?_
        refine sy hs (zct rfl rfl) fun _ _ hs => ?_
        refine za0 ?_
        refine hK34 _ _ ?_; clear hK34
        first | refine zho hs rfl (fun hz => ?_) (fun hz => ?_) | refine zah hs rfl (fun hz => ?_) (fun hz => ?_)
        · refine zls hs ([.blk b (.cells (gcA (.slice none 0 0) T (numB T M i).1) 183 (0,0))]) [10] [(0, true),(1, true),(2, true),(3, true),(4, true),(5, true),(6, true),(7, true),(8, true),(9, true),(10, false)] mixed (by kernel_rfl) ?_; clear hs; (try clear a w); intro a he
          refine dy 0 he rfl (za3 rfl) fun _ he => ?_
          refine dy 1 he rfl (za3 rfl) fun _ he => ?_
          refine dy 2 he rfl (za3 rfl) fun _ he => ?_
          first | (refine dy 3 he rfl (za5 rfl) ?_; clear he; (try clear a); intro a he) | (refine dy 3 he rfl (y_nilE rfl) ?_; clear he; (try clear a); intro a he)
          first | (refine dy 4 he rfl (za1 rfl (FO.of (off := 5) U183 rfl rfl ti3 (by decide))) ?_; clear he; (try clear a); intro a he) | (refine dy 4 he rfl (y_faE rfl (FO.of (off := 5) U183 rfl rfl ti3 (by decide))) ?_; clear he; (try clear a); intro a he)
          refine dy 5 he rfl (y_ld rfl U3 rfl (Cell.blk (.head _) ztu)) fun _ he => ?_
          refine dy 6 he rfl (zs0 rfl (by rw [U3]; rfl) U5 rfl) fun _ he => ?_
          first | (refine dy 7 he rfl (za5 rfl) ?_; clear he; (try clear a); intro a he) | (refine dy 7 he rfl (y_nilE rfl) ?_; clear he; (try clear a); intro a he)
          first | (refine dy 8 he rfl (za1 rfl (FO.of (off := 6) U183 rfl rfl ti126 (by decide))) ?_; clear he; (try clear a); intro a he) | (refine dy 8 he rfl (y_faE rfl (FO.of (off := 6) U183 rfl rfl ti126 (by decide))) ?_; clear he; (try clear a); intro a he)
          refine dy 9 he rfl (zlj (j := i) rfl rfl U126 ti5 rfl hi2') fun _ he => ?_
          refine zsp (i := 10) rfl he ?_; clear he; (try clear a); intro a w hs
          refine zda (i := 0) (o := 6 + i) hs rfl (by rw [show 6 + i = 0 + 6 + i * 1 by omega]; rfl) rfl ti5 rfl hgs zse (.free rfl) fun _ _ hs => ?_
          refine dend hs fun _ he => ?_
          refine zso he ?_; clear he; (try clear a); intro w hs
          refine hK31 _ _ ?_; clear hK31
          refine za2 ?_
          refine sy hs (zdz rfl rfl (zg4 (by omega))) fun _ _ hs => ?_
          refine sy hs (za3 rfl) fun _ _ hs => ?_
          refine za0 ?_
          refine hK (i + 1) _ _ (by omega) ⟨by omega, ?_⟩
          have hx0 : x = 0 := by simpa using hz
          have e : numB T M (i + 1) = ((numB T M i).1.set i (IntKind.u8.wrap T),(numB T M i).2) := by
            rw [numB, hx, Option.getD_some, if_pos hx0]
          rw [e]
          exact hs.sub ⟨rfl, rfl, rfl, rfl, rfl, trivial⟩
        · refine zai fun K35 hK35 => ?_
          refine za2 ?_
          refine sy hs (za3 rfl) fun _ _ hs => ?_
          refine sy hs (za3 rfl) fun _ _ hs => ?_
          refine sy hs (za3 rfl) fun _ _ hs => ?_
          first | (refine sy hs (za5 rfl) ?_; clear hs; (try clear a w); intro a w hs) | (refine sy hs (y_nilE rfl) ?_; clear hs; (try clear a w); intro a w hs)
          first | (refine sy hs (za1 rfl (FO.of (off := 6) U183 rfl rfl ti126 (by decide))) ?_; clear hs; (try clear a w); intro a w hs) | (refine sy hs (y_faE rfl (FO.of (off := 6) U183 rfl rfl ti126 (by decide))) ?_; clear hs; (try clear a w); intro a w hs)
          refine sy hs (zlj (j := i) rfl rfl U126 ti5 rfl hi2') fun _ _ hs => ?_
          refine zda (i := 0) (o := 6 + i) hs rfl (by rw [show 6 + i = 0 + 6 + i * 1 by omega]; rfl) rfl ti5 rfl hgs zse (.free rfl) fun _ _ hs => ?_
          refine za0 ?_
          refine hK35 _ _ ?_; clear hK35
          refine za2 ?_
          refine sy hs (za3 rfl) fun _ _ hs => ?_
          refine sy hs (zdz rfl rfl rfl) fun _ _ hs => ?_
          refine sy hs (za9 rfl) fun _ _ hs => ?_
          refine za0 ?_
          refine hK31 _ _ ?_; clear hK31
          refine za2 ?_
          refine sy hs (zdz rfl rfl (zg4 (by omega))) fun _ _ hs => ?_
          refine sy hs (za3 rfl) fun _ _ hs => ?_
          refine za0 ?_
          refine hK (i + 1) _ _ (by omega) ⟨by omega, ?_⟩
          have hx0 : ¬ x = 0 := by simpa using hz
          have e : numB T M (i + 1) = ((numB T M i).1.set i (numB T M i).2, IntKind.u8.wrap ((numB T M i).2 + 1)) := by
            rw [numB, hx, Option.getD_some, if_neg hx0]
          rw [e]
          exact hs.sub ⟨rfl, rfl, rfl, rfl, rfl, trivial⟩
      · have hi3 : i = 256 := by
          have : ¬ ((i : Nat) : Int) < 256 := by simpa using hj2
          omega
        rw [hi3] at hs
        rw [hM, hN0] at hs
        clear hK
        refine zc0 ?_
        refine hB28 _ _ ?_
        refine hK26 _ _ ?_; clear hK26
        refine zai fun K36 hK36 => ?_
        refine za2 ?_
        refine sy hs (za3 rfl) fun _ _ hs => ?_
        refine sy hs (za3 rfl) fun _ _ hs => ?_
        first | (refine sy hs (za5 rfl) ?_; clear hs; (try clear a w); intro a w hs) | (refine sy hs (y_nilE rfl) ?_; clear hs; (try clear a w); intro a w hs)
        first | (refine sy hs (za1 rfl (FO.of (off := 5) U183 rfl rfl ti3 (by decide))) ?_; clear hs; (try clear a w); intro a w hs) | (refine sy hs (y_faE rfl (FO.of (off := 5) U183 rfl rfl ti3 (by decide))) ?_; clear hs; (try clear a w); intro a w hs)
        refine sy hs (y_ld rfl U3 rfl (Cell.blk (.head _) ztu)) fun _ _ hs => ?_
        refine zvw (m := T) hs rfl rfl U179 ti178 ⟨by decide, rfl⟩ ⟨rfl, by simp [Value.cells, Value.oneCell']⟩ (by omega) fun tv _ _ hs => ?_
        have htv := hs.one (i := 0) rfl
        replace hs := hs.front 1
        first | (refine sy hs (za5 rfl) ?_; clear hs; (try clear a w); intro a w hs) | (refine sy hs (y_nilE rfl) ?_; clear hs; (try clear a w); intro a w hs)
        first | (refine sy hs (za1 rfl (FO.of (off := 0) U183 rfl rfl ti181 (by decide))) ?_; clear hs; (try clear a w); intro a w hs) | (refine sy hs (y_faE rfl (FO.of (off := 0) U183 rfl rfl ti181 (by decide))) ?_; clear hs; (try clear a w); intro a w hs)
        first | (refine sy hs (za1 rfl (FO.of (off := 4) U181 rfl rfl ti179 (by decide))) ?_; clear hs; (try clear a w); intro a w hs) | (refine sy hs (y_faE rfl (FO.of (off := 4) U181 rfl rfl ti179 (by decide))) ?_; clear hs; (try clear a w); intro a w hs)
        refine zda (i := 0) (o := 4) hs rfl rfl rfl ti179 htv (by rw [zne]; omega) gcA_tv (.free rfl) fun _ _ hs => ?_
        refine za0 ?_
        refine hK36 _ _ ?_; clear hK36
        refine zai fun K37 hK37 => ?_
        refine zai fun K38 hK38 => ?_
        refine za2 ?_
        refine sy hs (za9 rfl) fun _ _ hs => ?_
        refine za0 ?_
        refine hK38 _ _ ?_; clear hK38
        refine zam fun Qe39 hB39 hO39 => ?_
        have hNl : N.length = 256 := by rw [← hN0, zpx]; exact zm2 _ _
        refine zd1 (fun (p : Nat) a w => 2 * p ≤ l.length ∧ ∃ rows Ls, Tri l mf T p rows Ls ∧ St 117 w0 f (.blk b (.cells (gcA tv T N) 183 (0,0)) :: .row tv 178 1 rows :: (Ls ++ L)) [(0, a0),(3, pq b 0),(12, .int .i64 ((2 * p : Nat) : Int))] a w) (fun p => l.length - 2 * p) 0
          ⟨by omega, List.replicate T [.pointer none],[], ⟨by simp, fun m hm _ => by rw [List.getElem?_replicate, if_pos hm], fun q hq => absurd hq (by omega)⟩, hs.sub ⟨rfl, rfl, rfl, trivial⟩⟩ ?_
        clear hs; rintro p a w ⟨hp, rows, Ls, hTr, hs⟩ K hK
        refine zai fun K40 hK40 => ?_
        refine zai fun K41 hK41 => ?_
        refine za2 ?_
        refine sy hs (za3 rfl) fun _ _ hs => ?_
        refine sy hs (za3 rfl) fun _ _ hs => ?_
        refine sy hs (zli hR0 rfl U47) fun _ _ hs => ?_
        refine sy hs (zgq rfl rfl) fun _ _ hs => ?_
        refine za0 ?_
        refine hK41 _ _ ?_; clear hK41
        first | refine zho hs rfl (fun hlp => ?_) (fun hlp => ?_) | refine zah hs rfl (fun hlp => ?_) (fun hlp => ?_)
        · have hlp' : 2 * p < l.length := by
            have : ((2 * p : Nat) : Int) < ((rw0.length : Nat) : Int) := by simpa using hlp
            omega
          obtain ⟨key, c, hkey, hk1, hk2, hk3, hk4, hk5, hk6⟩ := hmf p hlp'
          obtain ⟨val, hval⟩ : ∃ v, l[2 * p + 1]? = some v := ⟨_, List.getElem?_eq_getElem (by omega)⟩
          obtain ⟨r1, hr1, hrs1⟩ := hW0.get hkey
          obtain rfl : r1 = [.string key] := hrs1
          obtain ⟨r2, hr2, hrs2⟩ := hW0.get hval
          obtain rfl : r2 = [.string val] := hrs2
          refine zaj ?_
          refine hK40 _ _ ?_; clear hK40
          refine zai fun K42 hK42 => ?_
          refine zam fun Qe43 hB43 hO43 => ?_
          refine zls hs ([]) [17] [(0, true),(1, true),(2, true),(3, true),(4, true),(5, true),(6, true),(7, true),(8, true),(9, true),(10, true),(11, true),(12, true),(13, true),(14, true),(15, true),(16, true),(17, false)] mixed (by kernel_rfl) fun _ he => ?_
          refine dy 0 he rfl (za3 rfl) fun _ he => ?_
          first | (refine dy 1 he rfl (za5 rfl) ?_; clear he; (try clear a); intro a he) | (refine dy 1 he rfl (y_nilE rfl) ?_; clear he; (try clear a); intro a he)
          first | (refine dy 2 he rfl (za1 rfl (FO.of (off := 0) U183 rfl rfl ti181 (by decide))) ?_; clear he; (try clear a); intro a he) | (refine dy 2 he rfl (y_faE rfl (FO.of (off := 0) U183 rfl rfl ti181 (by decide))) ?_; clear he; (try clear a); intro a he)
          refine dy 3 he rfl (za3 rfl) fun _ he => ?_
          refine dy 4 he rfl (za3 rfl) fun _ he => ?_
          refine dy 5 he rfl (zac (m := 2 * p) hR0 rfl rfl rfl (by omega) U47 ti9) fun _ he => ?_
          refine dy 6 he rfl (zbm (i := 2 * p) (j := 0) (hR0.up (L := _)) rfl hr1 rfl U9 rfl) fun _ he => ?_
          refine dy 7 he rfl (za3 rfl) fun _ he => ?_
          refine dy 8 he rfl (za3 rfl) fun _ he => ?_
          refine dy 9 he rfl (zdz rfl rfl (zg4 (by omega))) fun _ he => ?_
          refine dy 10 he rfl (zac (m := 2 * p + 1) hR0 rfl rfl rfl (by omega) U47 ti9) fun _ he => ?_
          refine dy 11 he rfl (zbm (i := 2 * p + 1) (j := 0) (hR0.up (L := _)) rfl hr2 rfl U9 rfl) fun _ he => ?_
          refine dy 12 he rfl (za3 rfl) fun _ he => ?_
          refine dy 13 he rfl (zli hR0 rfl U47) fun _ he => ?_
          refine dy 14 he rfl (za3 rfl) fun _ he => ?_
          refine dy 15 he rfl (zn2 rfl rfl (zg4 (by omega))) fun _ he => ?_
          refine dy 16 he rfl (za3 rfl) fun _ he => ?_
          refine zsp (i := 17) rfl he ?_; clear he; (try clear a); intro a w hs
          refine zbb (Lr := [.blk b (.cells (gcA tv T N) 183 (0,0)), .row tv 178 1 rows]) (Lf := Ls ++ L) hs rfl has113 rfl rfl (add_root (Q := fun n1 LX => NodeAt LX n1 (key.extract 1 key.size) val (rw0.length - (2 * p : Nat))) hk1 hk3 hk4 rfl hk2 gcA_2 zvc (by rw [Nat.mul_one]; exact zq4 hk5) (hTr.free _ hk6 (fun q hq => hinj q p hq hlp')) (fun n1 => add_rest)) (.free rfl) (by decide) ?_; clear hs; (try clear a w)
          rintro _ _ _ a w _ ⟨rfl, n1, LX, hQ, rfl⟩ hs
          refine dend hs fun _ he => ?_
          refine zso he ?_; clear he; (try clear a); intro w hs
          refine hK42 _ _ ?_; clear hK42
          refine za2 ?_
          refine sy hs (za3 rfl) fun _ _ hs => ?_
          refine sy hs (zdz rfl rfl (zg4 (by omega))) fun _ _ hs => ?_
          refine sy hs (za9 rfl) fun _ _ hs => ?_
          refine za0 ?_
          refine hK (p + 1) _ _ (by omega) ⟨by omega, rows.set (mf p) [pq n1 0], LX ++ Ls, ⟨by simpa using hTr.len, fun m hm hq => ?_, fun q hq => ?_⟩, ?_⟩
          · rw [List.getElem?_set_ne (fun e => hq p (by omega) e)]
            exact hTr.free m hm fun q h => hq q (by omega)
          · by_cases e : q = p
            · subst e
              exact ⟨n1, key, val, hkey, hval, List.getElem?_set_self (by rw [hTr.len]; exact hk6), by rw [← hlen]; exact hQ.mono fun e he => List.mem_append_left _ he⟩
            · obtain ⟨n2, k2, v2, q1, q2, q3, q4⟩ := hTr.node q (by omega)
              exact ⟨n2, k2, v2, q1, q2, by rw [List.getElem?_set_ne (fun e => hinj q p (by omega) hlp' e.symm)]; exact q3, q4.mono fun e he => List.mem_append_right _ he⟩
          · have := hs.sub (E' := [(0, a0),(3, pq b 0),(12, .int .i64 ((2 * (p + 1) : Nat) : Int))]) ⟨rfl, rfl, rfl, trivial⟩
            refine ⟨this.ev, this.cw.perm ?_⟩
            simp only [List.append_assoc, List.cons_append, List.nil_append]
            exact permX LX [_, _] (Ls ++ L)
        · have hpl : p = l.length / 2 := by
            have : ¬ ((2 * p : Nat) : Int) < ((rw0.length : Nat) : Int) := by simpa using hlp
            omega
          refine zc0 ?_
          refine hB39 _ _ ?_
          refine hK37 _ _ ?_; clear hK37
          refine zai fun K44 hK44 => ?_
          refine za2 ?_
          refine sy hs (za3 rfl) fun _ _ hs => ?_
          refine sy hs (za9 rfl) fun _ _ hs => ?_
          refine za0 ?_
          refine hK44 _ _ ?_; clear hK44
          refine zax ?_
          refine Rt_1 hs rfl rfl ?_
          exact ⟨b, tv, rows, Ls, rfl, hpl ▸ hTr, hs.cw⟩
end
section
open Go.RowKit Go.Sl
structure TexOK (l : List ByteArray) (mf : Nat → Nat) (T : Nat) (N : List Int) : Prop where
  len : l.length ≤ 1000
  len8 : 8 ≤ l.length
  sz : ∀ s ∈ l, s.size ≤ 1000000
  ev : l.length % 2 = 0
  T0 : sumB (markL l (l.length / 2)) 256 = (T : Int)
  T1 : T ≤ 256
  N0 : (numB T (markL l (l.length / 2)) 256).1 = N
  nu : ∀ p,2 * p < l.length → ∃ key c, l[2 * p]? = some key ∧ key ≠ bs [] ∧ 1 ≤ key.size ∧ getS key 0 = some ((c : Nat) : Int) ∧ c < 256 ∧ N[c]? = some (mf p : Int) ∧ mf p < T
  inj : ∀ p q, p < q → 2 * q < l.length → mf p ≠ mf q
  k3 : ∀ k, k < 3 → ∃ key, l[2 * k]? = some key ∧ key.size = 1
  k6 : ∃ key, l[6]? = some key ∧ key.size ≠ 1
set_option maxRecDepth 20000 in
set_option maxHeartbeats 8000000 in
theorem build_ok {f : Fz} {b : Nat} {cs : Array Value} {ov : Value} {l : List ByteArray} {w0 w : World} {L : List Ent} {mf : Nat → Nat} {T : Nat} {N : List Int} (hT : TexOK l mf T N) (h0 : RS tStr f ov l) (h4 : cs[4]? = some ov) (hC : Cw w0 f (.blk b (.cells cs 89 (0,0)) :: L) w) :
    Calls Tryz.prog 62 [pq b 0].toArray w fun e w' => ∃ g tv rows Ls, e = .returned (.iface 159 (pq g 0)) ∧ Tri l mf T (l.length / 2) rows Ls ∧ Cw w0 f (.blk g (.cells (gcA tv T N) 183 (0,0)) :: .row tv 178 1 rows :: (Ls ++ .blk b (.cells cs 89 (0,0)) :: L)) w' := by
  refine enter Tryz.func62 rfl Tryz.ntmps62 (by simp) hC fun a hs => ?_
  obtain ⟨rw0, hR0, hW0⟩ := id h0
  have hlen := hW0.len
  have hl8 := hT.len8
  have hl1 := hT.len
  refine zai fun K1 hK1 => ?_
  refine za2 ?_
  refine sy hs (za9 rfl) fun _ _ hs => ?_
  refine za0 ?_
  refine hK1 _ _ ?_; clear hK1
  refine zai fun K2 hK2 => ?_
  refine za2 ?_
  refine sy hs (za3 rfl) fun _ _ hs => ?_
  first | (refine sy hs (za5 rfl) ?_; clear hs; (try clear a w); intro a w hs) | (refine sy hs (y_nilE rfl) ?_; clear hs; (try clear a w); intro a w hs)
  first | (refine sy hs (za1 rfl (FO.of (off := 4) U89 rfl rfl ti47 (by decide))) ?_; clear hs; (try clear a w); intro a w hs) | (refine sy hs (y_faE rfl (FO.of (off := 4) U89 rfl rfl ti47 (by decide))) ?_; clear hs; (try clear a w); intro a w hs)
  refine sy hs (y_ld rfl U47 rfl (Cell.blk (.head _) h4)) fun _ _ hs => ?_
  refine sy hs (za9 rfl) fun _ _ hs => ?_
  refine za0 ?_
  refine hK2 _ _ ?_; clear hK2
  refine zai fun K3 hK3 => ?_
  refine zai fun K4 hK4 => ?_
  refine za2 ?_
  refine sy hs (za3 rfl) fun _ _ hs => ?_
  refine sy hs (zli hR0 rfl U47) fun _ _ hs => ?_
  refine sy hs (zct rfl rfl) fun _ _ hs => ?_
  rw [show decide ((rw0.length : Int) = 2) = false from decide_eq_false (by omega)] at hs
  refine sy hs (za3 rfl) fun _ _ hs => ?_
  refine sno hs fun _ _ hs => ?_
  refine sno hs fun _ _ hs => ?_
  refine sno hs fun _ _ hs => ?_
  refine sno hs fun _ _ hs => ?_
  refine sno hs fun _ _ hs => ?_
  refine sy hs (zaz rfl rfl) fun _ _ hs => ?_
  refine za0 ?_
  refine hK4 _ _ ?_; clear hK4
  refine zdj hs rfl ?_
  refine zaj ?_
  refine hK3 _ _ ?_; clear hK3
  refine zai fun K5 hK5 => ?_
  refine za2 ?_
  refine sy hs (za9 rfl) fun _ _ hs => ?_
  refine za0 ?_
  refine hK5 _ _ ?_; clear hK5
  refine zai fun K6 hK6 => ?_
  refine zai fun K7 hK7 => ?_
  refine za2 ?_
  refine sy hs (za9 rfl) fun _ _ hs => ?_
  refine za0 ?_
  refine hK7 _ _ ?_; clear hK7
  refine zam fun Qe8 hB8 hO8 => ?_
  refine zd1 (fun (k : Nat) a w => k ≤ 3 ∧ St 132 w0 f (.blk b (.cells cs 89 (0,0)) :: L) [(0, pq b 0),(3, ov),(5, .int .i64 ((2 * k : Nat) : Int))] a w) (fun k => 3 - k) 0 ⟨by omega, hs.sub ⟨rfl, rfl, rfl, trivial⟩⟩ ?_
  clear hs; rintro k a w ⟨hk, hs⟩ K hK
  refine zai fun K9 hK9 => ?_
  refine zai fun K10 hK10 => ?_
  refine za2 ?_
  refine sy hs (za3 rfl) fun _ _ hs => ?_
  refine sy hs (za3 rfl) fun _ _ hs => ?_
  refine sy hs (zli hR0 rfl U47) fun _ _ hs => ?_
  refine sy hs (zgq rfl rfl) fun _ _ hs => ?_
  refine za0 ?_
  refine hK10 _ _ ?_; clear hK10
  rw [show decide (((2 * k : Nat) : Int) < (rw0.length : Int)) = true from decide_eq_true (by omega)] at hs
  refine zdq hs rfl ?_
  by_cases hk3 : k < 3
  · obtain ⟨key, hkey, hks⟩ := hT.k3 k hk3
    obtain ⟨val, hval⟩ : ∃ v, l[2 * k + 1]? = some v := ⟨_, List.getElem?_eq_getElem (by omega)⟩
    obtain ⟨r1, hr1, hrs1⟩ := hW0.get hkey
    obtain rfl : r1 = [.string key] := hrs1
    obtain ⟨r2, hr2, hrs2⟩ := hW0.get hval
    obtain rfl : r2 = [.string val] := hrs2
    refine zaj ?_
    refine hK9 _ _ ?_; clear hK9
    refine zai fun K11 hK11 => ?_
    refine zam fun Qe12 hB12 hO12 => ?_
    refine zai fun K13 hK13 => ?_
    refine zai fun K14 hK14 => ?_
    refine za2 ?_
    refine sy hs (za3 rfl) fun _ _ hs => ?_
    refine sy hs (za3 rfl) fun _ _ hs => ?_
    refine sy hs (zac (m := 2 * k) hR0 rfl rfl rfl (by omega) U47 ti9) fun _ _ hs => ?_
    refine sy hs (zbm (i := 2 * k) (j := 0) (hR0.up (L := _)) rfl hr1 rfl U9 rfl) fun _ _ hs => ?_
    refine sy hs (zg2 rfl U9) fun _ _ hs => ?_
    refine sy hs (zeo rfl rfl) fun _ _ hs => ?_
    refine za0 ?_
    refine hK14 _ _ ?_; clear hK14
    rw [show decide ((key.size : Int) ≠ 1) = false from decide_eq_false (by omega)] at hs
    refine zdj hs rfl ?_
    refine zaj ?_
    refine hK13 _ _ ?_; clear hK13
    refine zai fun K15 hK15 => ?_
    refine za2 ?_
    refine sy hs (za3 rfl) fun _ _ hs => ?_
    refine sy hs (za3 rfl) fun _ _ hs => ?_
    refine sy hs (zdz rfl rfl (zg4 (by omega))) fun _ _ hs => ?_
    refine sy hs (zac (m := 2 * k + 1) hR0 rfl rfl rfl (by omega) U47 ti9) fun _ _ hs => ?_
    refine sy hs (zbm (i := 2 * k + 1) (j := 0) (hR0.up (L := _)) rfl hr2 rfl U9 rfl) fun _ _ hs => ?_
    refine sy hs (zg2 rfl U9) fun _ _ hs => ?_
    refine sy hs (zeo rfl rfl) fun _ _ hs => ?_
    refine za0 ?_
    refine hK15 _ _ ?_; clear hK15
    first | refine zho hs rfl (fun hv => ?_) (fun hv => ?_) | refine zah hs rfl (fun hv => ?_) (fun hv => ?_)
    · refine za2 ?_
      refine sy hs (za9 rfl) fun _ _ hs => ?_
      refine za0 ?_
      refine hK11 _ _ ?_; clear hK11
      refine za2 ?_
      refine sy hs (za3 rfl) fun _ _ hs => ?_
      refine sy hs (zdz rfl rfl (zg4 (by omega))) fun _ _ hs => ?_
      refine sy hs (za9 rfl) fun _ _ hs => ?_
      refine za0 ?_
      exact hK (k + 1) _ _ (by omega) ⟨by omega, hs.sub ⟨rfl, rfl, rfl, trivial⟩⟩
    · refine zaj ?_
      refine hK11 _ _ ?_; clear hK11
      refine za2 ?_
      refine sy hs (za3 rfl) fun _ _ hs => ?_
      refine sy hs (zdz rfl rfl (zg4 (by omega))) fun _ _ hs => ?_
      refine sy hs (za9 rfl) fun _ _ hs => ?_
      refine za0 ?_
      exact hK (k + 1) _ _ (by omega) ⟨by omega, hs.sub ⟨rfl, rfl, rfl, trivial⟩⟩
  · obtain rfl : k = 3 := by omega
    obtain ⟨key, hkey, hks⟩ := hT.k6
    obtain ⟨r1, hr1, hrs1⟩ := hW0.get hkey
    obtain rfl : r1 = [.string key] := hrs1
    refine zaj ?_
    refine hK9 _ _ ?_; clear hK9
    refine zai fun K16 hK16 => ?_
    refine zam fun Qe17 hB17 hO17 => ?_
    refine zai fun K18 hK18 => ?_
    refine zai fun K19 hK19 => ?_
    refine za2 ?_
    refine sy hs (za3 rfl) fun _ _ hs => ?_
    refine sy hs (za3 rfl) fun _ _ hs => ?_
    refine sy hs (zac (m := 6) hR0 rfl rfl rfl (by omega) U47 ti9) fun _ _ hs => ?_
    refine sy hs (zbm (i := 6) (j := 0) (hR0.up (L := _)) rfl hr1 rfl U9 rfl) fun _ _ hs => ?_
    refine sy hs (zg2 rfl U9) fun _ _ hs => ?_
    refine sy hs (zeo rfl rfl) fun _ _ hs => ?_
    refine za0 ?_
    refine hK19 _ _ ?_; clear hK19
    rw [show decide ((key.size : Int) ≠ 1) = true from decide_eq_true (by omega)] at hs
    refine zdq hs rfl ?_
    refine zai fun K20 hK20 => ?_
    refine za2 ?_
    refine sy hs (za3 rfl) fun _ _ hs => ?_
    refine zte (R := fun v f' L' => ∃ g tv rows Ls, v = pq g 0 ∧ f' = f ∧ Tri l mf T (l.length / 2) rows Ls ∧ L' = .blk g (.cells (gcA tv T N) 183 (0,0)) :: .row tv 178 1 rows :: (Ls ++ .blk b (.cells cs 89 (0,0)) :: L)) hs rfl has98 rfl (fun w hw => (mkGen_ok h0 hT.len hT.sz hT.ev hT.T0 hT.T1 hT.N0 hT.nu hT.inj hw).mono fun e w' ⟨g, tv, rows, Ls, q1, q2, q3⟩ => ⟨_, f, _, q1, .refl _, q3, g, tv, rows, Ls, rfl, rfl, q2, rfl⟩) ?_; clear hs; (try clear a w); rintro _ _ _ a w _ ⟨g, tv, rows, Ls, rfl, rfl, hTr, rfl⟩ hs
    refine sy hs (zqr rfl Tryz.underlying159 rfl) fun _ _ hs => ?_
    refine sy hs (za9 rfl) fun _ _ hs => ?_
    refine za0 ?_
    refine hK20 _ _ ?_; clear hK20
    refine zax ?_
    refine Rt_1 hs rfl rfl ?_
    exact ⟨g, tv, rows, Ls, rfl, hTr, hs.cw⟩
end
end Go.Proofs.YtpfdbeafdjnbnaaGreatDoor
