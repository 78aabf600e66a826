/-
  Walks and laws of this seat.
-/
import Derived.Test.YtdjjeahiomackaaGreatG6i
namespace Go.Sl
set_option linter.unusedVariables false
set_option linter.unusedSimpArgs false
set_option linter.unusedSectionVars false
open Go.RowKit
section
variable {P : Program} {f : Fz} {L : List Ent} {w0 w w' : World} {e : TypeId}
theorem zg0 (b : Nat) : ∀ (vs : List Value) (o : Nat) (w : World) (cur : Array Value), w.heap[b]? = some (.cells cur e (0,0)) → o + vs.length ≤ cur.size →
    ∃ cur' : Array Value,(w.setCells b o vs).heap[b]? = some (.cells cur' e (0,0)) ∧ cur'.size = cur.size ∧ ∀ j, cur'[j]? = if o ≤ j ∧ j < o + vs.length then vs[j - o]? else cur[j]?
  | [], o, w, cur, h, _ => ⟨cur, h, rfl, fun j => by rw [if_neg (fun q => by have := q.1; have := q.2; simp at this; omega)]⟩
  | v :: r, o, w, cur, h, hl => by
    simp only [List.length_cons] at hl
    have hlt : b < w.heap.size := (Array.getElem?_eq_some_iff.1 h).1
    have h1 : (w.setCell ⟨b, o, none⟩ v).heap[b]? = some (.cells (cur.setIfInBounds o v) e (0,0)) := by
      rw [Array.getElem?_eq_getElem (by simpa [World.setCell] using hlt)]
      have h2 : w.heap[b] = .cells cur e (0,0) := by rw [Array.getElem?_eq_getElem hlt] at h; exact Option.some.inj h
      simp [World.setCell, Array.getElem_modify, h2]
    obtain ⟨cur', g1, g2, g3⟩ := zg0 b r (o + 1) (w.setCell ⟨b, o, none⟩ v) _ h1 (by simp; omega)
    refine ⟨cur', g1, by simpa using g2, fun j => ?_⟩
    rw [g3 j]
    by_cases hj : j = o
    · subst hj
      rw [if_neg (by omega), if_pos (by simp)]
      simp [Array.getElem?_setIfInBounds]
      omega
    · by_cases hj2 : o + 1 ≤ j ∧ j < o + 1 + r.length
      · rw [if_pos hj2, if_pos (by simp; omega), show j - o = (j - (o + 1)) + 1 from by omega]; simp
      · rw [if_neg hj2, if_neg (by simp; omega)]
        simp [Array.getElem?_setIfInBounds, show ¬ o = j from fun q => hj q.symm]
theorem zg1 (b : Nat) : ∀ (vs : List Value) (o : Nat) (w : World), Grew w (w.setCells b o vs) (some b)
  | [], _, _ => ⟨rfl, rfl, rfl, Nat.le_refl _, fun _ _ _ => rfl⟩
  | v :: r, o, w => by
    have h1 := Grew.setCell w ⟨b, o, none⟩ v
    have h2 := zg1 b r (o + 1) (w.setCell ⟨b, o, none⟩ v)
    exact ⟨h2.os.trans h1.os, h2.tape.trans h1.tape, h2.output.trans h1.output, Nat.le_trans h1.size h2.size, fun k hk hn => (h2.block k (Nat.lt_of_lt_of_le hk h1.size) hn).trans (h1.block k hk hn)⟩
end
def insM (xs : List Int) (i x : Int) : Option (List Int) :=
  bif decide (0 ≤ i ∧ i < xs.length ∧ (xs.length + 1) * 8 ≤ 140737488355328) then some (xs.take i.toNat ++ x :: xs.drop i.toNat) else none
end Go.Sl
namespace Go.Proofs.YtdjjeahiomackaaGreat
set_option linter.unusedVariables false
set_option linter.unusedSimpArgs false
set_option linter.unusedSectionVars false
open Go.RowKit Go.Sl
theorem insP_row {rows : List (List Value)} {k : Nat} {vx : Value} (h1 : ∀ r ∈ rows, r.length = 1) (hk : k ≤ rows.length) :
    (rows.take k ++ [vx] :: rows.drop k).flatten = rows.flatten.take k ++ vx :: rows.flatten.drop k ∧ rows.flatten.length = rows.length := by
  have h2 := zbg h1
  have h3 := zhx h1 k
  have h4 := zmw h1 k
  simp only [Nat.mul_one] at h2 h3 h4
  exact ⟨by simp [h3, h4], h2⟩
theorem zta {cs : List Value} {vx : Value} {k n : Nat} {c1 c2 c3 : Array Value} (hn : cs.length = n) (hk : k < n) (hsz : n + 1 ≤ c1.size) (ht : ∀ j, j < k → c1[j]? = cs[j]?)
    (h2 : ∀ j, c2[j]? = if k + 1 ≤ j ∧ j < k + 1 + (cs.drop k).length then (cs.drop k)[j - (k + 1)]? else c1[j]?)
    (h3 : ∀ j, c3[j]? = if k ≤ j ∧ j < k + [vx].length then [vx][j - k]? else c2[j]?) : c3.toList.take (n + 1) = cs.take k ++ vx :: cs.drop k := by
  apply List.ext_getElem?
  intro j
  have hd : (cs.drop k).length = n - k := by simp [hn]
  by_cases hj : j < n + 1
  · rw [List.getElem?_take, if_pos hj]
    simp only [Array.getElem?_toList, h3 j]
    by_cases h1 : j < k
    · rw [if_neg (by omega), h2 j, if_neg (by omega), ht j h1, List.getElem?_append_left (by simp; omega), List.getElem?_take, if_pos h1]
    · rw [List.getElem?_append_right (by simp; omega)]
      simp only [List.length_take, hn, show min k n = k from by omega]
      by_cases h4 : j = k
      · subst h4; simp
      · rw [if_neg (by simp; omega), h2 j, if_pos (by omega), show j - k = (j - (k + 1)) + 1 from by omega]; simp
  · rw [List.getElem?_eq_none (by simp; omega), List.getElem?_eq_none (by simp; omega)]
theorem zii (n : Nat) {f : Fz} {ab : List Nat} {v : Value} {rows : List (List Value)} {xs : List Int} {i : Int} {vl : Value} {rl : List (List Value)} {x : Int} {res : List Int}
    (hW : RW (tP ab) f rows xs) (hX : RW (tP ab) f rl [x]) (hm : insM xs i x = some res) :
    Does Tryz.prog 62 [v, .int .i64 i, vl] f [.row v 49 1 rows, .row vl 49 1 rl] (fun r f' L' => ∃ (u0 : Value) (ur : List (List Value)), L' = [.row u0 49 1 ur, .row vl 49 1 rl] ∧ r = u0 ∧ RW (tP ab) f' ur res) := by
  intro w0 L w hC
  unfold insM at hm
  cases hc : decide (0 ≤ i ∧ i < xs.length ∧ (xs.length + 1) * 8 ≤ 140737488355328) with
  | false => rw [hc] at hm; cases hm
  | true =>
    rw [hc] at hm
    obtain rfl := Option.some.inj hm
    clear hm
    obtain ⟨hi0, hi1, hi2⟩ := of_decide_eq_true hc
    clear hc
    have hl := hW.len
    rw [← hl] at hi1 hi2
    obtain ⟨k, rfl⟩ : ∃ k : Nat, i = (k : Int) := ⟨i.toNat, by omega⟩
    have hk : k < rows.length := by omega
    obtain ⟨vx, rfl, hp⟩ : ∃ vx, rl = [[vx]] ∧ RP ab vx x := by
      cases rl with
      | nil => exact hX.elim
      | cons r rr =>
        cases rr with
        | nil => obtain ⟨⟨vx, rfl, h⟩, _⟩ := hX; exact ⟨vx, rfl, h⟩
        | cons _ _ => exact hX.2.elim
    have h1 := hC.live _ (.head _)
    have h2 := hC.live _ (.tail _ (.head _))
    obtain ⟨hown, hone⟩ := h1
    obtain ⟨hown2, hone2⟩ := h2
    rcases hown.2 with ⟨rfl, h0⟩ | ⟨g, cap, cur, rfl, _, hg, hnc, hcm, hcs, htk⟩
    · omega
    rcases hown2.2 with ⟨rfl, h0⟩ | ⟨gl, capl, curl, rfl, _, hgl, hncl, hcml, hcsl, htkl⟩
    · simp at h0
    have hne : gl ≠ g := by
      intro e
      subst e
      exact hC.sep 0 1 _ _ rfl rfl (by omega) gl rfl rfl
    have hr1 : ∀ r ∈ rows, r.length = 1 := fun r hr => (hone r hr).1
    obtain ⟨hf1, hf2⟩ := insP_row (vx := vx) hr1 (Nat.le_of_lt hk)
    simp only [Nat.mul_one] at hcs htk hcsl htkl
    have h1c : ∀ u ∈ rows.flatten, u.oneCell' = true := fun u hu => by
      obtain ⟨r, hr, hu⟩ := List.mem_flatten.1 hu
      exact (hone r hr).2 u hu
    have hvx1 : vx.oneCell' = true := hp.one
    have hRW : RW (tP ab) f (rows.take k ++ [vx] :: rows.drop k) (xs.take (k : Int).toNat ++ x :: xs.drop (k : Int).toNat) := by
      rw [Int.toNat_natCast]
      exact (hW.take k).append (show RW (tP ab) f ([vx] :: rows.drop k) (x :: xs.drop k) from ⟨⟨vx, rfl, hp⟩, hW.drop k⟩)
    have hone' : ∀ r ∈ rows.take k ++ [vx] :: rows.drop k, OneRow 1 r := fun r hr => by
      rcases List.mem_append.1 hr with hr | hr
      · exact hone r (List.mem_of_mem_take hr)
      · rcases List.mem_cons.1 hr with rfl | hr
        · exact ⟨rfl, fun u hu => by simp at hu; subst hu; exact hvx1⟩
        · exact hone r (List.mem_of_mem_drop hr)
    have hlen' : (rows.take k ++ [vx] :: rows.drop k).length = rows.length + 1 := by simp; omega
    have hcells : ∀ j u, rows.flatten[j]? = some u → w.cell? ⟨g,0 + j, none⟩ = some u := fun j u hj => by
      have hjl : j < rows.length := by rw [← hf2]; exact (List.getElem?_eq_some_iff.1 hj).1
      rw [← htk, List.getElem?_take, if_pos hjl] at hj
      simp [World.cell?, hg]
      simpa using hj
    have hcellsl : ∀ j u,[vx][j]? = some u → w.cell? ⟨gl,0 + j, none⟩ = some u := fun j u hj => by
      have e1 : [vx] = List.take 1 curl.toList := by simpa using htkl.symm
      rw [e1, List.getElem?_take] at hj
      split at hj
      · simp [World.cell?, hgl]
        simpa using hj
      · cases hj
    by_cases hroom : rows.length + 1 ≤ cap
    · refine (zvf g 0 rows.length cap k gl 0 1 capl rows.flatten [vx] w hk (by omega) hroom (by unfold maxLen at hcm; omega) hne hf2 rfl hcells (fun j hj => ?_) (fun j hj => Cell.free hg) hcellsl h1c (by simpa using hvx1) 49 49 curl.size cur.size (by simp [World.shape?, hgl]) (by simp [World.shape?, hg]) (by omega) (Cell.free hgl) (Cell.free hgl)).mono ?_
      · have : 0 + j < cur.size := by omega
        simp [World.cell?, hg, show j < cur.size from by omega]
      · rintro e w' ⟨rfl, rfl⟩
        have hdl : (rows.flatten.drop k).length = rows.length - k := by simp [hf2]
        obtain ⟨c2, g1, g2, g3⟩ := zg0 g (rows.flatten.drop k) (0 + (k + 1)) w.drew cur hg (by omega)
        obtain ⟨c3, k1, k2, k3⟩ := zg0 g [vx] (0 + k) _ c2 g1 (by simp; omega)
        simp only [Nat.zero_add] at g1 g3 k1 k3 ⊢
        have hgr : Grew w ((w.drew.setCells g (k + 1) (rows.flatten.drop k)).setCells g k [vx]) (some g) := by
          have a1 := zg1 g (rows.flatten.drop k) (k + 1) w.drew
          have a2 := zg1 g [vx] k (w.drew.setCells g (k + 1) (rows.flatten.drop k))
          exact ⟨a2.os.trans a1.os, a2.tape.trans a1.tape, a2.output.trans a1.output, Nat.le_trans a1.size a2.size, fun q hq hn => (a2.block q (Nat.lt_of_lt_of_le hq a1.size) hn).trans (a1.block q hq hn)⟩
        refine ⟨_, f,[.row (.slice (some ⟨g,0, none⟩) (rows.length + 1) cap) 49 1 (rows.take k ++ [vx] :: rows.drop k), .row (.slice (some ⟨gl,0, none⟩) 1 capl) 49 1 [[vx]]], rfl, Fz.le.refl f, ?_, _, _, rfl, rfl, hRW⟩
        refine hC.repl (i := 0) (y := .row (.slice (some ⟨g,0, none⟩) (rows.length + 1) cap) 49 1 (rows.take k ++ [vx] :: rows.drop k)) rfl hgr ⟨⟨?_, .inr ⟨g, cap, c3, by rw [hlen'], Nat.zero_le _, k1, by rw [hlen']; exact hroom, hcm, by omega, ?_⟩⟩, hone'⟩ (fun b hb => .inl hb)
        · rw [hf1, hlen']; simp [hf2]; omega
        · rw [hlen', Nat.mul_one, hf1]
          exact zta hf2 hk (by omega) (fun j hj => by
            rw [← htk, List.getElem?_take, if_pos (by omega)]; simp) g3 k3
    · refine (ins_grow g 0 rows.length cap k gl 0 1 capl rows.flatten [vx] w hk (by omega) hnc (by omega) (by omega) hf2 rfl hcells hcellsl h1c (by simpa using hvx1)).mono ?_
      rintro e w' ⟨rfl, rfl⟩
      obtain ⟨G, hG⟩ : ∃ G, G = grownCap w (rows.length + 1) cap 49 := ⟨_, rfl⟩
      have hGn : rows.length + 1 ≤ G := by rw [hG]; exact Go.grownCap_ge w _ _ _
      have hGm : G ≤ maxLen := by rw [hG]; exact Go.grownCap_le_maxLen w _ _ 49 (by unfold maxLen; omega)
      rw [← hG]
      obtain ⟨ROW, hROW⟩ : ∃ ROW : Array Value, ROW = (rows.flatten.take k).toArray ++ Builtin.zeroCells (Value.pointer none).cells (rows.length + 1 - k) ++ Builtin.zeroCells (Value.pointer none).cells (G - (rows.length + 1)) := ⟨_, rfl⟩
      rw [← hROW]
      have hRs : ROW.size = G := by
        rw [hROW]; simp [Builtin.zeroCells, Value.cells, hf2]; omega
      have hRt : ∀ j, j < k → ROW[j]? = rows.flatten[j]? := fun j hj => by
        rw [hROW, Array.append_assoc, Array.getElem?_append_left (by simp [hf2]; omega)]
        simp [List.getElem?_take, hj]
      have hdl : (rows.flatten.drop k).length = rows.length - k := by simp [hf2]
      obtain ⟨c2, g1, g2, g3⟩ := zg0 w.heap.size [vx] k (w.alloc (.cells ROW 49)).drew ROW (heap_alloc_new w _) (by simp; omega)
      obtain ⟨c3, k1, k2, k3⟩ := zg0 w.heap.size (rows.flatten.drop k) (k + 1) (((w.alloc (.cells ROW 49)).drew.setCells w.heap.size k [vx]).drew) c2 g1 (by omega)
      have hgr : Grew w ((((w.alloc (.cells ROW 49)).drew.setCells w.heap.size k [vx]).drew).setCells w.heap.size (k + 1) (rows.flatten.drop k)) (some g) := by
        have a0 := Grew.alloc w (.cells ROW 49) (some g)
        have a1 := zg1 w.heap.size [vx] k (w.alloc (.cells ROW 49)).drew
        have a2 := zg1 w.heap.size (rows.flatten.drop k) (k + 1) (((w.alloc (.cells ROW 49)).drew.setCells w.heap.size k [vx]).drew)
        exact ⟨a2.os.trans (a1.os.trans a0.os), a2.tape.trans (a1.tape.trans a0.tape), a2.output.trans (a1.output.trans a0.output), Nat.le_trans a0.size (Nat.le_trans a1.size a2.size), fun q hq hn =>
          ((a2.block q (Nat.lt_of_lt_of_le hq (Nat.le_trans a0.size a1.size)) (by simp; omega)).trans (a1.block q (Nat.lt_of_lt_of_le hq a0.size) (by simp; omega))).trans (a0.block q hq hn)⟩
      refine ⟨_, f,[.row (.slice (some ⟨w.heap.size,0, none⟩) (rows.length + 1) G) 49 1 (rows.take k ++ [vx] :: rows.drop k), .row (.slice (some ⟨gl,0, none⟩) 1 capl) 49 1 [[vx]]], rfl, Fz.le.refl f, ?_, _, _, rfl, rfl, hRW⟩
      refine hC.repl (i := 0) (y := .row (.slice (some ⟨w.heap.size,0, none⟩) (rows.length + 1) G) 49 1 (rows.take k ++ [vx] :: rows.drop k)) rfl hgr ⟨⟨?_, .inr ⟨w.heap.size, G, c3, by rw [hlen'], Nat.zero_le _, k1, by rw [hlen']; exact hGn, hGm, by omega, ?_⟩⟩, hone'⟩ (fun b hb => .inr ?_)
      · rw [hf1, hlen']; simp [hf2]; omega
      · rw [hlen', Nat.mul_one, hf1]
        refine zta (c1 := ROW) (c2 := Array.ofFn fun j : Fin G => if k + 1 ≤ j.1 ∧ j.1 < k + 1 + (rows.flatten.drop k).length then ((rows.flatten.drop k)[j.1 - (k + 1)]?).getD vx else (ROW[j.1]?).getD vx) hf2 hk (by omega) hRt (fun j => ?_) (fun j => ?_)
        · simp only [Array.getElem?_ofFn]
          by_cases hj : j < G
          · rw [dif_pos hj]
            split
            · rename_i hq
              rw [List.getElem?_eq_getElem (by omega)]; simp
            · rw [Array.getElem?_eq_getElem (by omega)]; simp
          · rw [dif_neg hj, if_neg (by omega), Array.getElem?_eq_none (by omega)]
        · rw [k3 j]
          simp only [Array.getElem?_ofFn]
          by_cases hq : k + 1 ≤ j ∧ j < k + 1 + (rows.flatten.drop k).length
          · rw [if_pos hq, if_neg (by simp; omega), dif_pos (by omega), if_pos hq, List.getElem?_eq_getElem (by omega)]; simp
          · rw [if_neg hq, g3 j]
            by_cases hj : k ≤ j ∧ j < k + [vx].length
            · rw [if_pos hj, if_pos hj]
            · rw [if_neg hj, if_neg hj]
              by_cases hG' : j < G
              · rw [dif_pos hG', if_neg hq, Array.getElem?_eq_getElem (by omega)]; simp
              · rw [dif_neg hG', Array.getElem?_eq_none (by omega)]
      · simp [Ent.key, Value.ownBlock] at hb; omega
end Go.Proofs.YtdjjeahiomackaaGreat
