/-
  Walks and laws of this seat; the base is the text Base.
-/
import Derived.Test.YthmnohdlhlmmpaaC15
import Derived.Test.YthmnohdlhlmmpaaL4w
import Derived.Test.YthmnohdlhlmmpaaY4q
import Derived.Laws.Cover4
namespace Go.Proofs.Ythmnohdlhlmmpaa
open Go.RowKit Go.Sl
/-- A list's mark. -/
def mkA (i j : Int) : api_Attr := (law4_attr 0 i j).getD ⟨bs [], bs []⟩
theorem attr_some (i j : Int) : law4_attr 0 i j = some (mkA i j) := by
  have : ∃ x, law4_attr 0 i j = some x := by
    unfold law4_attr
    rw [show remM i 26 = some (i.tmod 26) from rfl, show remM j 26 = some (j.tmod 26) from rfl, Option.bind_some, Option.bind_some]
    have h1 := encode_size_le (IntKind.i32.wrap (w64 (97 + i.tmod 26)))
    have h2 := encode_size_le (IntKind.i32.wrap (w64 (97 + j.tmod 26)))
    unfold addS
    rw [decide_eq_true (by omega), cond_true]
    exact ⟨_, rfl⟩
  obtain ⟨x, hx⟩ := this
  rw [mkA, hx]; rfl
/-- The block is full of marks. -/
def Marked (i : Nat) (x : Ent) : Prop := ∀ g cur, x = Ent.blk g (.cells cur 29 (0, 0)) → ∀ k, 2 * k + 1 < cur.size → cur[2 * k]? = some (.string (mkA i k).Name) ∧ cur[2 * k + 1]? = some (.string (mkA i k).Value)
def Slot2 (v : Value) (x : Ent) : Prop :=
  (v = .slice none 0 0 ∧ x = .row v 29 2 []) ∨ ∃ g m c cur, v = .slice (some ⟨g, 0, none⟩) m c ∧ m ≤ c ∧ c ≤ maxLen ∧ cur.size = c * 2 ∧ x = .blk g (.cells cur 29 (0, 0))
theorem cutv_full (g m c : Nat) : cutv (.slice (some ⟨g, 0, none⟩) m c) 2 0 c = .slice (some ⟨g, 0, none⟩) c c := by
  simp only [cutv, Nat.zero_mul, Nat.sub_zero]
  split
  · rfl
  · simp [Addr.add]
theorem set_twice {α : Type} (l : List α) (i : Nat) (x y : α) : (l.set i x).set i y = l.set i y := by simp
theorem set_self {α : Type} {l : List α} {i : Nat} {x : α} (h : l[i]? = some x) : l.set i x = l := by
  apply List.ext_getElem?
  intro j
  rw [List.getElem?_set]
  split
  · rename_i hij; subst hij
    rw [if_pos (List.getElem?_eq_some_iff.1 h).1, h]
  · rfl
theorem put2 (cur : Array Value) (k c : Nat) (x y : Value) (hc : cur.size = c * 2) (hk : k < c) {cur' : Array Value} (h : cur' = (cur.toList.take (0 + k * 2) ++ [x, y] ++ cur.toList.drop (0 + k * 2 + [x, y].length)).toArray) :
    cur'.size = c * 2 ∧ cur'[2 * k]? = some x ∧ cur'[2 * k + 1]? = some y ∧ ∀ m, m < 2 * k → cur'[m]? = cur[m]? := by
  subst h
  have e : cur.toList.length = c * 2 := by simpa using hc
  have e2 : (cur.toList.take (0 + k * 2)).length = 2 * k := by rw [List.length_take]; omega
  refine ⟨by simp; omega, ?_, ?_, fun m hm => ?_⟩
  · rw [List.getElem?_toArray, List.append_assoc, List.getElem?_append_right (by omega), e2, Nat.sub_self]; rfl
  · rw [List.getElem?_toArray, List.append_assoc, List.getElem?_append_right (by omega), e2, show 2 * k + 1 - 2 * k = 1 by omega]; rfl
  · rw [List.getElem?_toArray, List.append_assoc, List.getElem?_append_left (by omega), List.getElem?_take, if_pos (by omega)]; simp
theorem permX {α : Type} (X G R : List α) : (X ++ (G ++ R)).Perm (G ++ (X ++ R)) := by
  rw [← List.append_assoc, ← List.append_assoc]
  exact List.perm_append_comm.append_right _
/-- Slices that are of the call's own and unlike are let go. -/
theorem letgoS {f0 f : Fz} {w0 w : World} {X : List Ent} (hC : Cw w0 f X w) (hle : Fz.le f0 f) : ∀ {ls : List Value}, (∀ v ∈ ls, OwnV f0 f v 2 29) → (ls.Pairwise fun v u => ∀ b, vblk v = some b → vblk u ≠ some b) →
    ∃ Ls : List Ent, Ls.length = ls.length ∧ (∀ (j : Nat) (v : Value), ls[j]? = some v → ∃ x, Ls[j]? = some x ∧ Slot2 v x) ∧ (∀ x ∈ Ls, ∀ b, x.key = some b → ∃ v ∈ ls, vblk v = some b) ∧ Cw w0 f0 (Ls ++ X) w
  | [], _, _ => ⟨[], rfl, fun j v h => (by simp at h), fun x hx => (by cases hx), by simpa [blks] using hC.letgo (D := []) hle List.nodup_nil (fun b hb => by cases hb)⟩
  | v :: ls, hO, hP => by
    obtain ⟨hP1, hP2⟩ := List.pairwise_cons.1 hP
    obtain ⟨Ls, h1, h2, h3, h4⟩ := letgoS hC hle (fun u hu => hO u (List.mem_cons_of_mem _ hu)) hP2
    rcases hO v (List.mem_cons_self ..) with rfl | ⟨g, m, c, cur, rfl, g1, g2, g3, g4, g5⟩
    · refine ⟨.row (.slice none 0 0) 29 2 [] :: Ls, by simp [h1], fun j v hj => ?_, fun x hx b hb => ?_, h4.nilRow 29 2⟩
      · cases j with
        | zero => cases hj; exact ⟨_, rfl, .inl ⟨rfl, rfl⟩⟩
        | succ j => exact h2 j v (by simpa using hj)
      · rcases List.mem_cons.1 hx with rfl | hx
        · simp [Ent.key, Value.ownBlock] at hb
        · obtain ⟨u, hu, e⟩ := h3 x hx b hb
          exact ⟨u, List.mem_cons_of_mem _ hu, e⟩
    · refine ⟨.blk g (.cells cur 29 (0, 0)) :: Ls, by simp [h1], fun j v hj => ?_, fun x hx b hb => ?_, ?_⟩
      · cases j with
        | zero => cases hj; exact ⟨_, rfl, .inr ⟨g, m, c, cur, rfl, g1, g2, g3, rfl⟩⟩
        | succ j => exact h2 j v (by simpa using hj)
      · rcases List.mem_cons.1 hx with rfl | hx
        · cases hb
          exact ⟨_, List.mem_cons_self .., rfl⟩
        · obtain ⟨u, hu, e⟩ := h3 x hx b hb
          exact ⟨u, List.mem_cons_of_mem _ hu, e⟩
      · have hne : ∀ x ∈ Ls ++ X, x.key ≠ some g := fun x hx e => by
          rcases List.mem_append.1 hx with hx | hx
          · obtain ⟨u, hu, e'⟩ := h3 x hx g e
            exact hP1 u hu g rfl e'
          · rw [hC.apart x hx g e] at g4; cases g4
        refine ⟨h4.os, h4.tape, h4.output, h4.size, h4.frz, fun e he => ?_, fun e he b hb => ?_, fun i j x y hi hj hij b hb hb' => ?_⟩
        · rcases List.mem_cons.1 he with rfl | he
          · exact hC.frz g _ g4
          · exact h4.live e he
        · rcases List.mem_cons.1 he with rfl | he
          · cases hb; exact g5
          · exact h4.apart e he b hb
        · cases i with
          | zero =>
            cases hi; cases hb
            cases j with
            | zero => exact hij rfl
            | succ j => exact hne y (List.mem_of_getElem? (i := j) (by simpa using hj)) hb'
          | succ i =>
            cases j with
            | zero => cases hj; cases hb'; exact hne x (List.mem_of_getElem? (i := i) (by simpa using hi)) hb
            | succ j => exact h4.sep i j x y (by simpa using hi) (by simpa using hj) (by omega) b hb hb'
end Go.Proofs.Ythmnohdlhlmmpaa
