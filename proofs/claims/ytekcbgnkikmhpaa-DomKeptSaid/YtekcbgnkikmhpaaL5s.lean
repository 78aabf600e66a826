/-
  Walks and laws of this seat; the base is the text Base.
-/
import Derived.Test.YtekcbgnkikmhpaaL5o
import Derived.Test.YtekcbgnkikmhpaaPA
namespace Go.Proofs.Ytekcbgnkikmhpaa
open Go.RowKit Go.Sl
/-! # Blocks that are written over -/
/-- Only blocks that may be written to. -/
def FreeB (D : List Ent) : Prop := ∀ e ∈ D, ∃ b cs ty, e = .blk b (.cells cs ty (0, 0))
/-- A slice of structs of two cells in these blocks. -/
def AOK (D : List Ent) (v : Value) : Prop := ∃ ao len cap, v = .slice ao len cap ∧ len ≤ cap ∧ (ao = none → len = 0) ∧ ∀ a : Addr, ao = some a → (len ≠ 0 → a.spot = none) ∧ ∀ o, o < len * 2 → ∃ u : Value, u.oneCell' = true ∧ Cell fz0 D a.block (a.off + o) u
theorem AOK.of {D : List Ent} {v : Value} {rows : List (List Value)} (h : Rd fz0 D v 2 rows) : AOK D v := by
  obtain ⟨hl, ao, cap, rfl, h1, h2, h3⟩ := h
  refine ⟨ao, _, cap, rfl, h1, fun e => by rw [h2 e]; rfl, fun a ha => ⟨fun hn => (h3 a ha).1 (fun e => hn (by rw [e]; rfl)), fun o ho => ?_⟩⟩
  have hi : o / 2 < rows.length := by omega
  have hr : rows[o / 2]? = some rows[o / 2] := List.getElem?_eq_getElem hi
  obtain ⟨e1, e2⟩ := hl _ (List.getElem_mem hi)
  have hj : o % 2 < rows[o / 2].length := by rw [e1]; omega
  have := (h3 a ha).2 _ _ hr (o % 2) _ (List.getElem?_eq_getElem hj)
  rw [show o / 2 * 2 + o % 2 = o by omega] at this
  exact ⟨_, e2 _ (List.getElem_mem hj), this⟩
theorem AOK.rd {D : List Ent} {v : Value} (h : AOK D v) : ∃ rows, Rd fz0 D v 2 rows := by
  obtain ⟨ao, len, cap, rfl, h1, h2, h3⟩ := h
  cases ao with
  | none =>
    have := h2 rfl
    subst this
    exact ⟨[], ⟨fun r hr => (by cases hr), none, cap, rfl, h1, fun _ => rfl, fun a ha => (by cases ha)⟩⟩
  | some a =>
    obtain ⟨g1, g2⟩ := h3 a rfl
    have hch : ∃ ch : Nat → Value, ∀ o, o < len * 2 → (ch o).oneCell' = true ∧ Cell fz0 D a.block (a.off + o) (ch o) := by
      refine ⟨fun o => if h : o < len * 2 then (g2 o h).choose else undef, fun o ho => ?_⟩
      simp only [ho, dif_pos]
      exact (g2 o ho).choose_spec
    obtain ⟨ch, hch⟩ := hch
    have hlen : ((List.range len).map fun i => [ch (i * 2), ch (i * 2 + 1)]).length = len := by simp
    refine ⟨(List.range len).map fun i => [ch (i * 2), ch (i * 2 + 1)], ⟨fun r hr => ?_, some a, cap, by rw [hlen], by rw [hlen]; exact h1, fun e => (by cases e), fun b hb => ?_⟩⟩
    · obtain ⟨i, hi, rfl⟩ := List.mem_map.1 hr
      rw [List.mem_range] at hi
      refine ⟨rfl, fun x hx => ?_⟩
      simp only [List.mem_cons, List.not_mem_nil, or_false] at hx
      rcases hx with rfl | rfl
      · exact (hch _ (by omega)).1
      · exact (hch _ (by omega)).1
    · cases hb
      refine ⟨fun hn => g1 (fun e => hn (by subst e; rfl)), fun i r hr j x hx => ?_⟩
      have hi := (List.getElem?_eq_some_iff.1 hr).1
      rw [hlen] at hi
      simp only [List.getElem?_map, List.getElem?_range hi, Option.map_some, Option.some.injEq] at hr
      subst hr
      match j, hx with
      | 0, hx => simp at hx; subst hx; exact (hch _ (by omega)).2
      | 1, hx => simp at hx; subst hx; exact (hch _ (by omega)).2
      | j + 2, hx => simp at hx
def over (cs : Array Value) (o : Nat) (r : List Value) : Array Value := (cs.toList.take o ++ r ++ cs.toList.drop (o + r.length)).toArray
theorem over_cell {D : List Ent} {idx b o : Nat} {cs : Array Value} {ty : TypeId} {r : List Value} (hi : D[idx]? = some (.blk b (.cells cs ty (0, 0)))) (ho : o + r.length ≤ cs.size) (h1 : ∀ x ∈ r, x.oneCell' = true) {b' o' : Nat} {u : Value} (hu : u.oneCell' = true) (h : Cell fz0 D b' o' u) :
    ∃ u' : Value, u'.oneCell' = true ∧ Cell fz0 (D.set idx (.blk b (.cells (over cs o r) ty (0, 0)))) b' o' u' := by
  have hlt := (List.getElem?_eq_some_iff.1 hi).1
  rcases h with ⟨C, e, fr, h2, _⟩ | ⟨x, hx, h⟩
  · cases h2
  · obtain ⟨j, hj⟩ := List.getElem?_of_mem hx
    by_cases q : j = idx
    · subst q
      rw [hi] at hj
      cases hj
      obtain ⟨rfl, hc⟩ := h
      have hm : Ent.blk b (.cells (over cs o r) ty (0, 0)) ∈ D.set j (.blk b (.cells (over cs o r) ty (0, 0))) := List.mem_of_getElem? (List.getElem?_set_self hlt)
      have hc' : cs.toList[o']? = some u := by simpa using hc
      have hol := (List.getElem?_eq_some_iff.1 hc').1
      have hsz : cs.toList.length = cs.size := Array.length_toList
      by_cases c1 : o' < o
      · refine ⟨u, hu, .inr ⟨_, hm, rfl, ?_⟩⟩
        unfold over
        rw [List.getElem?_toArray, List.append_assoc, List.getElem?_append_left (by rw [List.length_take]; omega), List.getElem?_take, if_pos c1]; exact hc'
      · by_cases c2 : o' < o + r.length
        · have hr : r[o' - o]? = some r[o' - o] := List.getElem?_eq_getElem (by omega)
          refine ⟨r[o' - o], h1 _ (List.getElem_mem ..), .inr ⟨_, hm, rfl, ?_⟩⟩
          unfold over
          rw [List.getElem?_toArray, List.append_assoc, List.getElem?_append_right (by rw [List.length_take]; omega), List.length_take, show o' - min o cs.toList.length = o' - o by omega, List.getElem?_append_left (by omega)]; exact hr
        · refine ⟨u, hu, .inr ⟨_, hm, rfl, ?_⟩⟩
          unfold over
          rw [List.getElem?_toArray, List.append_assoc, List.getElem?_append_right (by rw [List.length_take]; omega), List.length_take, show o' - min o cs.toList.length = o' - o by omega, List.getElem?_append_right (by omega), List.getElem?_drop, show o + r.length + (o' - o - r.length) = o' by omega]; exact hc'
    · exact ⟨u, hu, .inr ⟨x, List.mem_of_getElem? (i := j) (by rw [List.getElem?_set_ne (fun e => q e.symm)]; exact hj), h⟩⟩
theorem AOK.over {D : List Ent} {idx b o : Nat} {cs : Array Value} {ty : TypeId} {r : List Value} {v : Value} (h : AOK D v) (hi : D[idx]? = some (.blk b (.cells cs ty (0, 0)))) (ho : o + r.length ≤ cs.size) (h1 : ∀ x ∈ r, x.oneCell' = true) :
    AOK (D.set idx (.blk b (.cells (over cs o r) ty (0, 0)))) v := by
  obtain ⟨ao, len, cap, rfl, g1, g2, g3⟩ := h
  refine ⟨ao, len, cap, rfl, g1, g2, fun a ha => ⟨(g3 a ha).1, fun o' ho' => ?_⟩⟩
  obtain ⟨u, u1, u2⟩ := (g3 a ha).2 o' ho'
  exact over_cell hi ho h1 u1 u2
theorem FreeB.over {D : List Ent} {idx b : Nat} {cs : Array Value} {ty : TypeId} (h : FreeB D) : FreeB (D.set idx (.blk b (.cells cs ty (0, 0)))) := fun e he => by
  rcases List.mem_or_eq_of_mem_set he with he | rfl
  · exact h e he
  · exact ⟨_, _, _, rfl⟩
/-- Where an element of such a slice lies. -/
theorem elem_at {D : List Ent} {v : Value} {rows : List (List Value)} (hF : FreeB D) (h : Rd fz0 D v 2 rows) {m : Nat} (hm : m < rows.length) :
    ∃ (idx b o : Nat) (cs : Array Value) (ty : TypeId), eaddr v 2 m 0 = .pointer (some ⟨b, o, none⟩) ∧ D[idx]? = some (.blk b (.cells cs ty (0, 0))) ∧ o + 2 ≤ cs.size := by
  have hr : rows[m]? = some rows[m] := List.getElem?_eq_getElem hm
  obtain ⟨hl, ao, cap, rfl, h1, h2, h3⟩ := h
  obtain ⟨e1, _⟩ := hl _ (List.getElem_mem hm)
  cases ao with
  | none => rw [h2 rfl] at hm; simp at hm
  | some a =>
    have hj : 1 < rows[m].length := by rw [e1]; omega
    rcases (h3 a rfl).2 _ _ hr 1 _ (List.getElem?_eq_getElem hj) with ⟨C, e, fr, g, _⟩ | ⟨x, hx, hc⟩
    · cases g
    · obtain ⟨b, cs, ty, rfl⟩ := hF x hx
      obtain ⟨idx, hidx⟩ := List.getElem?_of_mem hx
      obtain ⟨rfl, hc⟩ := hc
      have := (Array.getElem?_eq_some_iff.1 hc).1
      exact ⟨idx, a.block, a.off + (m * 2 + 0), cs, ty, rfl, hidx, by omega⟩
/-! # Spoil -/
def NodeR (D : List Ent) (r : List Value) : Prop := ∃ (x : api_Node) (va : Value), r = [.int .i64 x.Kind, .string x.Name, .string x.Text, va, .int .i64 x.Parent, .int .i64 x.First, .int .i64 x.Last, .int .i64 x.Prev, .int .i64 x.Next] ∧ AOK D va ∧ ∃ ao len cap, va = .slice ao len cap ∧ len ≤ 1000000
def spoilt : List Value := [.string (bs [115, 112, 111, 105, 108, 116]), .string (bs [])]
def gone : List Value := [.int .i64 (-9), .string (bs []), .string (bs []), .slice none 0 0, .int .i64 0, .int .i64 0, .int .i64 0, .int .i64 0, .int .i64 0]
set_option maxHeartbeats 4000000 in
set_option maxRecDepth 20000 in
theorem keep_Spoil_ok {f : Fz} {v0 : Value} {rows : List (List Value)} {D : List Ent} (hD : FreeB D) (hr : ∀ r ∈ rows, NodeR D r) (hlen : rows.length ≤ 1000000) :
    ∀ w0 L w, Cw w0 f (.row v0 59 9 rows :: (D ++ L)) w → Calls Try.prog 23 [.agg #[v0]].toArray w fun e w' => e = .returned (.tuple #[]) ∧ Cw w0 f L w' := by
  intro w0 L w hC
  refine enter Try.func23 rfl Try.ntmps23 (by simp) hC fun a hs => ?_
  refine W_seq fun K1 hK1 => ?_
  refine W_region ?_
  refine sbox hs rfl ?_; clear hs; intro b1 a w hs
  refine RL_nil ?_
  refine hK1 _ _ ?_; clear hK1
  refine W_seq fun K5 hK5 => ?_
  refine W_region ?_
  refine sy (v := .int .i64 (0)) hs (y_assign rfl) ?_; clear hs; intro a w hs
  refine RL_nil ?_
  refine hK5 _ _ ?_; clear hK5
  refine W_block fun Qe1 hB1 hO1 => ?_
  refine W_loop (fun (k : Nat) a w => ∃ (i : Nat) (rs : List (List Value)) (D' : List Ent), i + k = rows.length ∧ rs.length = rows.length ∧ (∀ j, i ≤ j → rs[j]? = rows[j]?) ∧ FreeB D' ∧ (∀ r ∈ rows, NodeR D' r) ∧
    St 36 w0 f (.blk b1 (.cells #[v0] 24 (0, 0)) :: .row v0 59 9 rs :: (D' ++ L)) [(1, .pointer (some ⟨b1, 0, none⟩)), (2, .int .i64 (i : Int))] a w) (fun k => k) rows.length ⟨0, rows, D, by omega, rfl, fun _ _ => rfl, hD, hr, hs.sub ⟨rfl, rfl, trivial⟩⟩ ?_
  clear hs hC
  rintro k a w ⟨i, rs, D', hik, hrs, hsame, hF, hN, hs⟩ K2 hK2
  refine W_seq fun K3 hK3 => ?_
  refine W_seq fun K4 hK4 => ?_
  refine W_region ?_
  refine sy (v := .int .i64 (i : Int)) hs (y_move rfl) ?_; clear hs; intro a w hs
  refine sy (v := .pointer (some ⟨b1, 0, none⟩)) hs (y_fieldAddr rfl (FO.of (off := 0) Try.underlying24 rfl rfl ti22 (by decide))) ?_; clear hs; intro a w hs
  refine sy (v := v0) hs (y_ld rfl Try.underlying22 rfl (Cell.blk (.head _) rfl)) ?_; clear hs; intro a w hs
  refine sy hs (y_lenR0 (Rd.st hs (.tail _ (.head _))) rfl Try.underlying22) ?_; clear hs; intro a w hs
  refine sy hs (y_lss rfl rfl) ?_; clear hs; intro a w hs
  refine RL_nil ?_
  refine hK4 _ _ ?_; clear hK4
  refine W_cond hs rfl (fun hg => ?_) (fun hg => ?_)
  · have hir : i < rs.length := by simpa using hg
    obtain ⟨k, rfl⟩ : ∃ q, k = q + 1 := ⟨k - 1, by omega⟩
    have hri : rs[i]? = some rows[i] := by rw [hsame i (Nat.le_refl _)]; exact List.getElem?_eq_getElem (by omega)
    have hrm : rows[i] ∈ rows := List.getElem_mem (by omega)
    obtain ⟨x, va, hx, _, aoL, lenL, capL, hvaL, hlenL⟩ := hN _ hrm
    rw [hx] at hri
    refine W_skip ?_
    refine hK3 _ _ ?_; clear hK3
    refine W_seq fun K5 hK5 => ?_
    refine W_block fun Qe2 hB2 hO2 => ?_
    refine W_seq fun K6 hK6 => ?_
    refine W_seq fun K7 hK7 => ?_
    refine W_region ?_
    refine sy (v := .int .i64 (0)) hs (y_assign rfl) ?_; clear hs; intro a w hs
    refine RL_nil ?_
    refine hK7 _ _ ?_; clear hK7
    refine W_block fun Qe3 hB3 hO3 => ?_
    obtain ⟨ra0, hra0⟩ := (show AOK D' va from by
      obtain ⟨x', va', hx', hv', _⟩ := hN _ hrm
      rw [hx] at hx'
      simp only [List.cons.injEq, Value.int.injEq, Value.string.injEq, and_true, true_and] at hx'
      rw [hx'.2.2.2.1]; exact hv').rd
    obtain ⟨ao, cap, hva, _⟩ := hra0.val
    refine W_loop (fun (q : Nat) a w => ∃ (j : Nat) (D2 : List Ent), j + q = ra0.length ∧ FreeB D2 ∧ (∀ r ∈ rows, NodeR D2 r) ∧
      St 36 w0 f (.blk b1 (.cells #[v0] 24 (0, 0)) :: .row v0 59 9 rs :: (D2 ++ L)) [(1, .pointer (some ⟨b1, 0, none⟩)), (2, .int .i64 (i : Int)), (3, .int .i64 (j : Int))] a w) (fun q => q) ra0.length ⟨0, D', by omega, hF, hN, hs.sub ⟨rfl, rfl, rfl, trivial⟩⟩ ?_
    clear hs hF hN
    rintro q a w ⟨j, D2, hjq, hF, hN, hs⟩ K8 hK8
    have hva2 : AOK D2 va := by
      obtain ⟨x', va', hx', hv', _⟩ := hN _ hrm
      rw [hx] at hx'
      simp only [List.cons.injEq, Value.int.injEq, Value.string.injEq, and_true, true_and] at hx'
      rw [hx'.2.2.2.1]; exact hv'
    obtain ⟨ra, hra⟩ := hva2.rd
    have hral : ra.length = ra0.length := by
      obtain ⟨ao', cap', hva', _⟩ := hra.val
      rw [hva] at hva'
      have := (Value.slice.inj hva').2.1
      omega
    have hraL : ∀ {E : List (Nat × Value)} {a : Act} {w : World}, St 36 w0 f (.blk b1 (.cells #[v0] 24 (0, 0)) :: .row v0 59 9 rs :: (D2 ++ L)) E a w → Rd f (.blk b1 (.cells #[v0] 24 (0, 0)) :: .row v0 59 9 rs :: (D2 ++ L)) va 2 ra := fun _ => hra.mono (fun _ _ h => by cases h) fun e he => List.mem_cons_of_mem _ (List.mem_cons_of_mem _ (List.mem_append_left _ he))
    refine W_seq fun K9 hK9 => ?_
    refine W_seq fun K10 hK10 => ?_
    refine W_region ?_
    refine sy (v := .int .i64 (j : Int)) hs (y_move rfl) ?_; clear hs; intro a w hs
    refine sy (v := .pointer (some ⟨b1, 0, none⟩)) hs (y_fieldAddr rfl (FO.of (off := 0) Try.underlying24 rfl rfl ti22 (by decide))) ?_; clear hs; intro a w hs
    refine sy (v := v0) hs (y_ld rfl Try.underlying22 rfl (Cell.blk (.head _) rfl)) ?_; clear hs; intro a w hs
    refine sy (v := .int .i64 (i : Int)) hs (y_move rfl) ?_; clear hs; intro a w hs
    refine sy hs (y_indexAddr (Rd.st hs (.tail _ (.head _))) rfl rfl rfl hir Try.underlying22 ti59) ?_; clear hs; intro a w hs
    refine sy (v := eaddr v0 9 i 3) hs (y_fieldAddrE (i := i) (j := 0) (Rd.st hs (.tail _ (.head _))) rfl hir (FO.of (off := 3) Try.underlying59 rfl rfl ti32 (by decide))) ?_; clear hs; intro a w hs
    refine sy (v := va) hs (y_loadE (i := i) (j := 3) (Rd.st hs (.tail _ (.head _))) rfl hri rfl Try.underlying32 rfl) ?_; clear hs; intro a w hs
    refine sy hs (y_lenR0 (hraL hs) rfl Try.underlying32) ?_; clear hs; intro a w hs
    refine sy hs (y_lss rfl rfl) ?_; clear hs; intro a w hs
    refine RL_nil ?_
    refine hK10 _ _ ?_; clear hK10
    refine W_cond hs rfl (fun hg2 => ?_) (fun hg2 => ?_)
    · have hjr : j < ra.length := by simpa using hg2
      obtain ⟨q, rfl⟩ : ∃ z, q = z + 1 := ⟨q - 1, by omega⟩
      refine W_skip ?_
      refine hK9 _ _ ?_; clear hK9
      refine W_seq fun K11 hK11 => ?_
      refine W_block fun Qe4 hB4 hO4 => ?_
      refine W_region ?_
      refine sy (v := .pointer (some ⟨b1, 0, none⟩)) hs (y_fieldAddr rfl (FO.of (off := 0) Try.underlying24 rfl rfl ti22 (by decide))) ?_; clear hs; intro a w hs
      refine sy (v := v0) hs (y_ld rfl Try.underlying22 rfl (Cell.blk (.head _) rfl)) ?_; clear hs; intro a w hs
      refine sy (v := .int .i64 (i : Int)) hs (y_move rfl) ?_; clear hs; intro a w hs
      refine sy hs (y_indexAddr (Rd.st hs (.tail _ (.head _))) rfl rfl rfl hir Try.underlying22 ti59) ?_; clear hs; intro a w hs
      refine sy (v := eaddr v0 9 i 3) hs (y_fieldAddrE (i := i) (j := 0) (Rd.st hs (.tail _ (.head _))) rfl hir (FO.of (off := 3) Try.underlying59 rfl rfl ti32 (by decide))) ?_; clear hs; intro a w hs
      refine sy (v := va) hs (y_loadE (i := i) (j := 3) (Rd.st hs (.tail _ (.head _))) rfl hri rfl Try.underlying32 rfl) ?_; clear hs; intro a w hs
      refine sy (v := .int .i64 (j : Int)) hs (y_move rfl) ?_; clear hs; intro a w hs
      refine sy hs (y_buildS (places := [(0, 1), (1, 1)]) (cs := spoilt) rfl Try.underlying53 ti53 (by kernel_rfl) (by decide) rfl ⟨rfl, trivial⟩) ?_; clear hs; intro a w hs
      refine sy hs (y_indexAddr (hraL hs) rfl rfl rfl hjr Try.underlying32 ti53) ?_; clear hs; intro a w hs
      obtain ⟨idx, b, o, cs, ty, e1, e2, e3⟩ := elem_at hF hra hjr
      have hidx : (.blk b1 (.cells #[v0] 24 (0, 0)) :: .row v0 59 9 rs :: (D2 ++ L) : List Ent)[idx + 2]? = some (.blk b (.cells cs ty (0, 0))) := by
        show (D2 ++ L)[idx]? = _
        rw [List.getElem?_append_left (List.getElem?_eq_some_iff.1 e2).1]; exact e2
      have hone : ∀ x ∈ spoilt, x.oneCell' = true := by
        intro x hx
        simp only [spoilt, List.mem_cons, List.not_mem_nil, or_false] at hx
        rcases hx with rfl | rfl <;> rfl
      refine RL_storeOff (i := idx + 2) (b := b) (o := o) (k := 2) (cs := cs) (e := ty) (r' := spoilt) hs hidx (by rw [← e1]; rfl) rfl ti53 ⟨rfl, hone⟩ e3 (.free rfl) ?_; clear hs; intro a w hs
      have hset : (.blk b1 (.cells #[v0] 24 (0, 0)) :: .row v0 59 9 rs :: (D2 ++ L) : List Ent).set (idx + 2) (.blk b (.cells (over cs o spoilt) ty (0, 0))) = .blk b1 (.cells #[v0] 24 (0, 0)) :: .row v0 59 9 rs :: (D2.set idx (.blk b (.cells (over cs o spoilt) ty (0, 0))) ++ L) := by
        rw [List.set_cons_succ, List.set_cons_succ, List.set_append_left _ _ (List.getElem?_eq_some_iff.1 e2).1]
      replace hs : St 36 w0 f (.blk b1 (.cells #[v0] 24 (0, 0)) :: .row v0 59 9 rs :: (D2.set idx (.blk b (.cells (over cs o spoilt) ty (0, 0))) ++ L)) _ a w := hset ▸ hs
      refine RL_nil ?_
      refine hK11 _ _ ?_; clear hK11
      refine W_region ?_
      refine sy (v := .int .i64 (j : Int)) hs (y_move rfl) ?_; clear hs; intro a w hs
      refine sy hs (y_add rfl rfl rfl) ?_; clear hs; intro a w hs
      refine sy (v := .int .i64 (w64 ((j : Int) + 1))) hs (y_assign rfl) ?_; clear hs; intro a w hs
      refine RL_nil ?_
      refine hK8 q _ _ (Nat.lt_succ_self _) ⟨j + 1, D2.set idx (.blk b (.cells (over cs o spoilt) ty (0, 0))), by omega, hF.over, fun r hr' => ?_, ?_⟩
      · obtain ⟨x', va', hx', hv', hl'⟩ := hN r hr'
        exact ⟨x', va', hx', hv'.over e2 e3 hone, hl'⟩
      · rw [← w64_succ (show j ≤ 9223372036854775806 by
          rw [hva] at hvaL
          have := (Value.slice.inj hvaL).2.1
          omega)]
        exact hs.sub ⟨rfl, rfl, rfl, trivial⟩
    · refine W_exit ?_
      refine hB3 _ _ ?_
      refine hK6 _ _ ?_
      refine W_region ?_
      refine sy (v := .pointer (some ⟨b1, 0, none⟩)) hs (y_fieldAddr rfl (FO.of (off := 0) Try.underlying24 rfl rfl ti22 (by decide))) ?_; clear hs; intro a w hs
      refine sy (v := v0) hs (y_ld rfl Try.underlying22 rfl (Cell.blk (.head _) rfl)) ?_; clear hs; intro a w hs
      refine sy (v := .int .i64 (i : Int)) hs (y_move rfl) ?_; clear hs; intro a w hs
      refine sy hs (y_buildS (places := [(0, 1), (1, 1), (2, 1), (3, 1), (4, 1), (5, 1), (6, 1), (7, 1), (8, 1)]) (cs := gone) rfl Try.underlying59 ti59 (by kernel_rfl) (by decide) rfl ⟨rfl, trivial⟩) ?_; clear hs; intro a w hs
      refine sy hs (y_indexAddr (Rd.st hs (.tail _ (.head _))) rfl rfl rfl hir Try.underlying22 ti59) ?_; clear hs; intro a w hs
      refine RL_storeElem (i := 1) (m := i) (r' := gone) hs rfl rfl rfl hri ti59 (AllC.row (r := gone) ⟨rfl, rfl, rfl, rfl, rfl, rfl, rfl, rfl, rfl, trivial⟩ rfl) (.free rfl) ?_; clear hs; intro a w hs
      replace hs : St 36 w0 f (.blk b1 (.cells #[v0] 24 (0, 0)) :: .row v0 59 9 (rs.set i gone) :: (D2 ++ L)) _ a w := hs
      refine RL_nil ?_
      refine hK5 _ _ ?_; clear hK5
      refine W_region ?_
      refine sy (v := .int .i64 (i : Int)) hs (y_move rfl) ?_; clear hs; intro a w hs
      refine sy hs (y_add rfl rfl rfl) ?_; clear hs; intro a w hs
      refine sy (v := .int .i64 (w64 ((i : Int) + 1))) hs (y_assign rfl) ?_; clear hs; intro a w hs
      refine RL_nil ?_
      refine hK2 k _ _ (Nat.lt_succ_self _) ⟨i + 1, rs.set i gone, D2, by omega, by simpa using hrs, fun j' hj' => ?_, hF, hN, ?_⟩
      · rw [List.getElem?_set_ne (by omega)]; exact hsame j' (by omega)
      · rw [← w64_succ (show i ≤ 9223372036854775806 by omega)]
        exact hs.sub ⟨rfl, rfl, trivial⟩
  · refine W_exit ?_
    refine hB1 _ _ ?_
    refine RtV0 hs rfl ?_
    exact ⟨rfl, ((hs.cw.drop 2).drop D'.length |> fun h => by simpa using h)⟩
end Go.Proofs.Ytekcbgnkikmhpaa
