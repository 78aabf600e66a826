/-
  Walks and laws of this seat.
-/
import Derived.Test.YtdjjeahiomackaaGreatT6
import Derived.Test.YtdjjeahiomackaaGreatBash
namespace Go.Proofs.YtdjjeahiomackaaGreat
set_option linter.unusedVariables false
set_option linter.unusedSimpArgs false
set_option linter.unusedSectionVars false
open Go.RowKit Go.Sl
theorem zbz {j : Nat} (h : j ≤ 9223372036854775806) : w64 ((j : Int) + 1) = ((j + 1 : Nat) : Int) := by
  rw [show w64 ((j : Int) + 1) = (j : Int) + 1 from zom (by omega)]; rfl
def FreeB (D : List Ent) : Prop := ∀ e ∈ D, ∃ b cs ty, e = .blk b (.cells cs ty (0,0))
def AOK (D : List Ent) (v : Value) : Prop := ∃ ao len cap, v = .slice ao len cap ∧ len ≤ cap ∧ (ao = none → len = 0) ∧ ∀ a : Addr, ao = some a → (len ≠ 0 → a.spot = none) ∧ ∀ o, o < len * 2 → ∃ u : Value, u.oneCell' = true ∧ Cell fz0 D a.block (a.off + o) u
theorem AOK.of {D : List Ent} {v : Value} {rows : List (List Value)} (h : Rd fz0 D v 2 rows) : AOK D v := by
  obtain ⟨hl, ao, cap, rfl, h1, h2, h3⟩ := h
  refine ⟨ao, _, cap, rfl, h1, fun e => by rw [h2 e]; rfl, fun a ha => ⟨fun hn => (h3 a ha).1 (fun e => hn (by rw [e]; rfl)), fun o ho => ?_⟩⟩
  have hi : o / 2 < rows.length := by omega
  have hr : rows[o / 2]? = some rows[o / 2] := List.getElem?_eq_getElem hi
  obtain ⟨e1, e2⟩ := hl _ (List.getElem_mem hi)
  have hj : o % 2 < rows[o / 2].length := by rw [e1]; omega
  have := (h3 a ha).2 _ _ hr (o % 2) _ (List.getElem?_eq_getElem hj)
  rw [show o / 2 * 2 + o % 2 = o by omega] at this
  exact ⟨_, e2 _ (List.getElem_mem hj), this⟩
theorem AOK.rd {D : List Ent} {v : Value} (h : AOK D v) : ∃ rows, Rd fz0 D v 2 rows := by
  obtain ⟨ao, len, cap, rfl, h1, h2, h3⟩ := h
  cases ao with
  | none =>
    have := h2 rfl
    subst this
    exact ⟨[], ⟨fun r hr => (by cases hr), none, cap, rfl, h1, fun _ => rfl, fun a ha => (by cases ha)⟩⟩
  | some a =>
    obtain ⟨g1, g2⟩ := h3 a rfl
    have hch : ∃ ch : Nat → Value, ∀ o, o < len * 2 → (ch o).oneCell' = true ∧ Cell fz0 D a.block (a.off + o) (ch o) := by
      refine ⟨fun o => if h : o < len * 2 then (g2 o h).choose else undef, fun o ho => ?_⟩
      simp only [ho, dif_pos]
      exact (g2 o ho).choose_spec
    obtain ⟨ch, hch⟩ := hch
    have hlen : ((List.range len).map fun i => [ch (i * 2), ch (i * 2 + 1)]).length = len := by simp
    refine ⟨(List.range len).map fun i => [ch (i * 2), ch (i * 2 + 1)], ⟨fun r hr => ?_, some a, cap, by rw [hlen], by rw [hlen]; exact h1, fun e => (by cases e), fun b hb => ?_⟩⟩
    · obtain ⟨i, hi, rfl⟩ := List.mem_map.1 hr
      rw [List.mem_range] at hi
      refine ⟨rfl, fun x hx => ?_⟩
      simp only [List.mem_cons, List.not_mem_nil, or_false] at hx
      rcases hx with rfl | rfl
      · exact (hch _ (by omega)).1
      · exact (hch _ (by omega)).1
    · cases hb
      refine ⟨fun hn => g1 (fun e => hn (by subst e; rfl)), fun i r hr j x hx => ?_⟩
      have hi := (List.getElem?_eq_some_iff.1 hr).1
      rw [hlen] at hi
      simp only [List.getElem?_map, List.getElem?_range hi, Option.map_some, Option.some.injEq] at hr
      subst hr
      match j, hx with
      | 0, hx => simp at hx; subst hx; exact (hch _ (by omega)).2
      | 1, hx => simp at hx; subst hx; exact (hch _ (by omega)).2
      | j + 2, hx => simp at hx
def over (cs : Array Value) (o : Nat) (r : List Value) : Array Value := (cs.toList.take o ++ r ++ cs.toList.drop (o + r.length)).toArray
theorem zuc {D : List Ent} {idx b o : Nat} {cs : Array Value} {ty : TypeId} {r : List Value} (hi : D[idx]? = some (.blk b (.cells cs ty (0,0)))) (ho : o + r.length ≤ cs.size) (h1 : ∀ x ∈ r, x.oneCell' = true) {b' o' : Nat} {u : Value} (hu : u.oneCell' = true) (h : Cell fz0 D b' o' u) :
    ∃ u' : Value, u'.oneCell' = true ∧ Cell fz0 (D.set idx (.blk b (.cells (over cs o r) ty (0,0)))) b' o' u' := by
  have hlt := (List.getElem?_eq_some_iff.1 hi).1
  rcases h with ⟨C, e, fr, h2, _⟩ | ⟨x, hx, h⟩
  · cases h2
  · obtain ⟨j, hj⟩ := List.getElem?_of_mem hx
    by_cases q : j = idx
    · subst q
      rw [hi] at hj
      cases hj
      obtain ⟨rfl, hc⟩ := h
      have hm : Ent.blk b (.cells (over cs o r) ty (0,0)) ∈ D.set j (.blk b (.cells (over cs o r) ty (0,0))) := List.mem_of_getElem? (List.getElem?_set_self hlt)
      have hc' : cs.toList[o']? = some u := by simpa using hc
      have hol := (List.getElem?_eq_some_iff.1 hc').1
      have hsz : cs.toList.length = cs.size := Array.length_toList
      by_cases c1 : o' < o
      · refine ⟨u, hu, .inr ⟨_, hm, rfl, ?_⟩⟩
        unfold over
        rw [List.getElem?_toArray, List.append_assoc, List.getElem?_append_left (by rw [List.length_take]; omega), List.getElem?_take, if_pos c1]; exact hc'
      · by_cases c2 : o' < o + r.length
        · have hr : r[o' - o]? = some r[o' - o] := List.getElem?_eq_getElem (by omega)
          refine ⟨r[o' - o], h1 _ (List.getElem_mem ..), .inr ⟨_, hm, rfl, ?_⟩⟩
          unfold over
          rw [List.getElem?_toArray, List.append_assoc, List.getElem?_append_right (by rw [List.length_take]; omega), List.length_take, show o' - min o cs.toList.length = o' - o by omega, List.getElem?_append_left (by omega)]; exact hr
        · refine ⟨u, hu, .inr ⟨_, hm, rfl, ?_⟩⟩
          unfold over
          rw [List.getElem?_toArray, List.append_assoc, List.getElem?_append_right (by rw [List.length_take]; omega), List.length_take, show o' - min o cs.toList.length = o' - o by omega, List.getElem?_append_right (by omega), List.getElem?_drop, show o + r.length + (o' - o - r.length) = o' by omega]; exact hc'
    · exact ⟨u, hu, .inr ⟨x, List.mem_of_getElem? (i := j) (by rw [List.getElem?_set_ne (fun e => q e.symm)]; exact hj), h⟩⟩
theorem AOK.over {D : List Ent} {idx b o : Nat} {cs : Array Value} {ty : TypeId} {r : List Value} {v : Value} (h : AOK D v) (hi : D[idx]? = some (.blk b (.cells cs ty (0,0)))) (ho : o + r.length ≤ cs.size) (h1 : ∀ x ∈ r, x.oneCell' = true) :
    AOK (D.set idx (.blk b (.cells (over cs o r) ty (0,0)))) v := by
  obtain ⟨ao, len, cap, rfl, g1, g2, g3⟩ := h
  refine ⟨ao, len, cap, rfl, g1, g2, fun a ha => ⟨(g3 a ha).1, fun o' ho' => ?_⟩⟩
  obtain ⟨u, u1, u2⟩ := (g3 a ha).2 o' ho'
  exact zuc hi ho h1 u1 u2
theorem FreeB.over {D : List Ent} {idx b : Nat} {cs : Array Value} {ty : TypeId} (h : FreeB D) : FreeB (D.set idx (.blk b (.cells cs ty (0,0)))) := fun e he => by
  rcases List.mem_or_eq_of_mem_set he with he | rfl
  · exact h e he
  · exact ⟨_, _, _, rfl⟩
theorem elem_at {D : List Ent} {v : Value} {rows : List (List Value)} (hF : FreeB D) (h : Rd fz0 D v 2 rows) {m : Nat} (hm : m < rows.length) :
    ∃ (idx b o : Nat) (cs : Array Value) (ty : TypeId), eaddr v 2 m 0 = .pointer (some ⟨b, o, none⟩) ∧ D[idx]? = some (.blk b (.cells cs ty (0,0))) ∧ o + 2 ≤ cs.size := by
  have hr : rows[m]? = some rows[m] := List.getElem?_eq_getElem hm
  obtain ⟨hl, ao, cap, rfl, h1, h2, h3⟩ := h
  obtain ⟨e1, _⟩ := hl _ (List.getElem_mem hm)
  cases ao with
  | none => rw [h2 rfl] at hm; simp at hm
  | some a =>
    have hj : 1 < rows[m].length := by rw [e1]; omega
    rcases (h3 a rfl).2 _ _ hr 1 _ (List.getElem?_eq_getElem hj) with ⟨C, e, fr, g, _⟩ | ⟨x, hx, hc⟩
    · cases g
    · obtain ⟨b, cs, ty, rfl⟩ := hF x hx
      obtain ⟨idx, hidx⟩ := List.getElem?_of_mem hx
      obtain ⟨rfl, hc⟩ := hc
      have := (Array.getElem?_eq_some_iff.1 hc).1
      exact ⟨idx, a.block, a.off + (m * 2 + 0), cs, ty, rfl, hidx, by omega⟩
def NodeR (D : List Ent) (r : List Value) : Prop := ∃ (x : zah) (va : Value), r = [.int .i64 x.Kind, .string x.Name, .string x.Text, va, .int .i64 x.Parent, .int .i64 x.First, .int .i64 x.Last, .int .i64 x.Prev, .int .i64 x.Next] ∧ AOK D va ∧ ∃ ao len cap, va = .slice ao len cap ∧ len ≤ 1000000
def spoilt : List Value := [.string (bs [115,112,111,105,108,116]), .string (bs [])]
def gone : List Value := [.int .i64 (-9), .string (bs []), .string (bs []), .slice none 0 0, .int .i64 0, .int .i64 0, .int .i64 0, .int .i64 0, .int .i64 0]
set_option maxHeartbeats 4000000 in
set_option maxRecDepth 20000 in
theorem zpm {f : Fz} {v0 : Value} {rows : List (List Value)} {D : List Ent} (hD : FreeB D) (hr : ∀ r ∈ rows, NodeR D r) (hlen : rows.length ≤ 1000000) :
    ∀ w0 L w, Cw w0 f (.row v0 42 9 rows :: (D ++ L)) w → Calls Tryz.prog 9 [.agg #[v0]].toArray w fun e w' => e = .returned (.tuple #[]) ∧ Cw w0 f L w' := by
  intro w0 L w hC
  refine enter Tryz.func9 rfl Tryz.ntmps9 (by simp) hC fun a hs => ?_
  refine zbt fun K1 hK1 => ?_
  refine za5 ?_
  refine sbox hs rfl ?_; clear hs; intro b1 a w hs
  refine za1 ?_
  refine hK1 _ _ ?_; clear hK1
  refine zbt fun K5 hK5 => ?_
  refine za5 ?_
  refine sy hs (zb2 rfl) ?_; clear hs; intro a w hs
  refine za1 ?_
  refine hK5 _ _ ?_; clear hK5
  refine zaq fun Qe1 hB1 hO1 => ?_
  refine zeq (fun (k : Nat) a w => ∃ (i : Nat) (rs : List (List Value)) (D' : List Ent), i + k = rows.length ∧ rs.length = rows.length ∧ (∀ j, i ≤ j → rs[j]? = rows[j]?) ∧ FreeB D' ∧ (∀ r ∈ rows, NodeR D' r) ∧
    St 36 w0 f (.blk b1 (.cells #[v0] 30 (0,0)) :: .row v0 42 9 rs :: (D' ++ L)) [(1, .pointer (some ⟨b1,0, none⟩)),(2, .int .i64 (i : Int))] a w) (fun k => k) rows.length ⟨0, rows, D, by omega, rfl, fun _ _ => rfl, hD, hr, hs.sub ⟨rfl, rfl, trivial⟩⟩ ?_
  clear hs hC
  rintro k a w ⟨i, rs, D', hik, hrs, hsame, hF, hN, hs⟩ K2 hK2
  refine zbt fun K3 hK3 => ?_
  refine zbt fun K4 hK4 => ?_
  refine za5 ?_
  refine sy hs (za9 rfl) ?_; clear hs; intro a w hs
  refine sy (v := .pointer (some ⟨b1,0, none⟩)) hs (za2 rfl (FO.of (off := 0) Tryz.underlying30 rfl rfl ti28 (by decide))) ?_; clear hs; intro a w hs
  refine sy (v := v0) hs (y_ld rfl Tryz.underlying28 rfl (Cell.blk (.head _) rfl)) ?_; clear hs; intro a w hs
  refine sy hs (zjm (Rd.st hs (.tail _ (.head _))) rfl Tryz.underlying28) ?_; clear hs; intro a w hs
  refine sy hs (zib rfl rfl) ?_; clear hs; intro a w hs
  refine za1 ?_
  refine hK4 _ _ ?_; clear hK4
  refine zai hs rfl (fun hg => ?_) (fun hg => ?_)
  · have hir : i < rs.length := by simpa using hg
    obtain ⟨k, rfl⟩ : ∃ q, k = q + 1 := ⟨k - 1, by omega⟩
    have hri : rs[i]? = some rows[i] := by rw [hsame i (Nat.le_refl _)]; exact List.getElem?_eq_getElem (by omega)
    have hrm : rows[i] ∈ rows := List.getElem_mem (by omega)
    obtain ⟨x, va, hx, _, aoL, lenL, capL, hvaL, hlenL⟩ := hN _ hrm
    rw [hx] at hri
    refine zal ?_
    refine hK3 _ _ ?_; clear hK3
    refine zbt fun K5 hK5 => ?_
    refine zaq fun Qe2 hB2 hO2 => ?_
    refine zbt fun K6 hK6 => ?_
    refine zbt fun K7 hK7 => ?_
    refine za5 ?_
    refine sy hs (zb2 rfl) ?_; clear hs; intro a w hs
    refine za1 ?_
    refine hK7 _ _ ?_; clear hK7
    refine zaq fun Qe3 hB3 hO3 => ?_
    obtain ⟨ra0, hra0⟩ := (show AOK D' va from by
      obtain ⟨x', va', hx', hv', _⟩ := hN _ hrm
      rw [hx] at hx'
      simp only [List.cons.injEq, Value.int.injEq, Value.string.injEq, and_true, true_and] at hx'
      rw [hx'.2.2.2.1]; exact hv').rd
    obtain ⟨ao, cap, hva, _⟩ := hra0.val
    refine zeq (fun (q : Nat) a w => ∃ (j : Nat) (D2 : List Ent), j + q = ra0.length ∧ FreeB D2 ∧ (∀ r ∈ rows, NodeR D2 r) ∧
      St 36 w0 f (.blk b1 (.cells #[v0] 30 (0,0)) :: .row v0 42 9 rs :: (D2 ++ L)) [(1, .pointer (some ⟨b1,0, none⟩)),(2, .int .i64 (i : Int)),(3, .int .i64 (j : Int))] a w) (fun q => q) ra0.length ⟨0, D', by omega, hF, hN, hs.sub ⟨rfl, rfl, rfl, trivial⟩⟩ ?_
    clear hs hF hN
    rintro q a w ⟨j, D2, hjq, hF, hN, hs⟩ K8 hK8
    have hva2 : AOK D2 va := by
      obtain ⟨x', va', hx', hv', _⟩ := hN _ hrm
      rw [hx] at hx'
      simp only [List.cons.injEq, Value.int.injEq, Value.string.injEq, and_true, true_and] at hx'
      rw [hx'.2.2.2.1]; exact hv'
    obtain ⟨ra, hra⟩ := hva2.rd
    have hral : ra.length = ra0.length := by
      obtain ⟨ao', cap', hva', _⟩ := hra.val
      rw [hva] at hva'
      have := (Value.slice.inj hva').2.1
      omega
    have hraL : ∀ {E : List (Nat × Value)} {a : Act} {w : World}, St 36 w0 f (.blk b1 (.cells #[v0] 30 (0,0)) :: .row v0 42 9 rs :: (D2 ++ L)) E a w → Rd f (.blk b1 (.cells #[v0] 30 (0,0)) :: .row v0 42 9 rs :: (D2 ++ L)) va 2 ra := fun _ => hra.mono (fun _ _ h => by cases h) fun e he => List.mem_cons_of_mem _ (List.mem_cons_of_mem _ (List.mem_append_left _ he))
    refine zbt fun K9 hK9 => ?_
    refine zbt fun K10 hK10 => ?_
    refine za5 ?_
    refine sy hs (za9 rfl) ?_; clear hs; intro a w hs
    refine sy (v := .pointer (some ⟨b1,0, none⟩)) hs (za2 rfl (FO.of (off := 0) Tryz.underlying30 rfl rfl ti28 (by decide))) ?_; clear hs; intro a w hs
    refine sy (v := v0) hs (y_ld rfl Tryz.underlying28 rfl (Cell.blk (.head _) rfl)) ?_; clear hs; intro a w hs
    refine sy hs (za9 rfl) ?_; clear hs; intro a w hs
    refine sy hs (zac (Rd.st hs (.tail _ (.head _))) rfl rfl rfl hir Tryz.underlying28 ti42) ?_; clear hs; intro a w hs
    refine sy (v := eaddr v0 9 i 3) hs (zc9 (i := i) (j := 0) (Rd.st hs (.tail _ (.head _))) rfl hir (FO.of (off := 3) Tryz.underlying42 rfl rfl ti25 (by decide))) ?_; clear hs; intro a w hs
    refine sy (v := va) hs (zdm (i := i) (j := 3) (Rd.st hs (.tail _ (.head _))) rfl hri rfl Tryz.underlying25 rfl) ?_; clear hs; intro a w hs
    refine sy hs (zjm (hraL hs) rfl Tryz.underlying25) ?_; clear hs; intro a w hs
    refine sy hs (zib rfl rfl) ?_; clear hs; intro a w hs
    refine za1 ?_
    refine hK10 _ _ ?_; clear hK10
    refine zai hs rfl (fun hg2 => ?_) (fun hg2 => ?_)
    · have hjr : j < ra.length := by simpa using hg2
      obtain ⟨q, rfl⟩ : ∃ z, q = z + 1 := ⟨q - 1, by omega⟩
      refine zal ?_
      refine hK9 _ _ ?_; clear hK9
      refine zbt fun K11 hK11 => ?_
      refine zaq fun Qe4 hB4 hO4 => ?_
      refine za5 ?_
      refine sy (v := .pointer (some ⟨b1,0, none⟩)) hs (za2 rfl (FO.of (off := 0) Tryz.underlying30 rfl rfl ti28 (by decide))) ?_; clear hs; intro a w hs
      refine sy (v := v0) hs (y_ld rfl Tryz.underlying28 rfl (Cell.blk (.head _) rfl)) ?_; clear hs; intro a w hs
      refine sy hs (za9 rfl) ?_; clear hs; intro a w hs
      refine sy hs (zac (Rd.st hs (.tail _ (.head _))) rfl rfl rfl hir Tryz.underlying28 ti42) ?_; clear hs; intro a w hs
      refine sy (v := eaddr v0 9 i 3) hs (zc9 (i := i) (j := 0) (Rd.st hs (.tail _ (.head _))) rfl hir (FO.of (off := 3) Tryz.underlying42 rfl rfl ti25 (by decide))) ?_; clear hs; intro a w hs
      refine sy (v := va) hs (zdm (i := i) (j := 3) (Rd.st hs (.tail _ (.head _))) rfl hri rfl Tryz.underlying25 rfl) ?_; clear hs; intro a w hs
      refine sy hs (za9 rfl) ?_; clear hs; intro a w hs
      refine sy hs (zde (places := [(0,1),(1,1)]) (cs := spoilt) rfl Tryz.underlying38 ti38 (by kernel_rfl) (by decide) rfl ⟨rfl, trivial⟩) ?_; clear hs; intro a w hs
      refine sy hs (zac (hraL hs) rfl rfl rfl hjr Tryz.underlying25 ti38) ?_; clear hs; intro a w hs
      obtain ⟨idx, b, o, cs, ty, e1, e2, e3⟩ := elem_at hF hra hjr
      have hidx : (.blk b1 (.cells #[v0] 30 (0,0)) :: .row v0 42 9 rs :: (D2 ++ L) : List Ent)[idx + 2]? = some (.blk b (.cells cs ty (0,0))) := by
        show (D2 ++ L)[idx]? = _
        rw [List.getElem?_append_left (List.getElem?_eq_some_iff.1 e2).1]; exact e2
      have hone : ∀ x ∈ spoilt, x.oneCell' = true := by
        intro x hx
        simp only [spoilt, List.mem_cons, List.not_mem_nil, or_false] at hx
        rcases hx with rfl | rfl <;> rfl
      refine zny (i := idx + 2) (b := b) (o := o) (k := 2) (cs := cs) (e := ty) (r' := spoilt) hs hidx (by rw [← e1]; rfl) rfl ti38 ⟨rfl, hone⟩ e3 (.free rfl) ?_; clear hs; intro a w hs
      have hset : (.blk b1 (.cells #[v0] 30 (0,0)) :: .row v0 42 9 rs :: (D2 ++ L) : List Ent).set (idx + 2) (.blk b (.cells (over cs o spoilt) ty (0,0))) = .blk b1 (.cells #[v0] 30 (0,0)) :: .row v0 42 9 rs :: (D2.set idx (.blk b (.cells (over cs o spoilt) ty (0,0))) ++ L) := by
        rw [List.set_cons_succ, List.set_cons_succ, List.set_append_left _ _ (List.getElem?_eq_some_iff.1 e2).1]
      replace hs : St 36 w0 f (.blk b1 (.cells #[v0] 30 (0,0)) :: .row v0 42 9 rs :: (D2.set idx (.blk b (.cells (over cs o spoilt) ty (0,0))) ++ L)) _ a w := hset ▸ hs
      refine za1 ?_
      refine hK11 _ _ ?_; clear hK11
      refine za5 ?_
      refine sy hs (za9 rfl) ?_; clear hs; intro a w hs
      refine sy hs (zgh rfl rfl rfl) ?_; clear hs; intro a w hs
      refine sy hs (zb2 rfl) ?_; clear hs; intro a w hs
      refine za1 ?_
      refine hK8 q _ _ (Nat.lt_succ_self _) ⟨j + 1, D2.set idx (.blk b (.cells (over cs o spoilt) ty (0,0))), by omega, hF.over, fun r hr' => ?_, ?_⟩
      · obtain ⟨x', va', hx', hv', hl'⟩ := hN r hr'
        exact ⟨x', va', hx', hv'.over e2 e3 hone, hl'⟩
      · rw [← zbz (show j ≤ 9223372036854775806 by
          rw [hva] at hvaL
          have := (Value.slice.inj hvaL).2.1
          omega)]
        exact hs.sub ⟨rfl, rfl, rfl, trivial⟩
    · refine ze7 ?_
      refine hB3 _ _ ?_
      refine hK6 _ _ ?_
      refine za5 ?_
      refine sy (v := .pointer (some ⟨b1,0, none⟩)) hs (za2 rfl (FO.of (off := 0) Tryz.underlying30 rfl rfl ti28 (by decide))) ?_; clear hs; intro a w hs
      refine sy (v := v0) hs (y_ld rfl Tryz.underlying28 rfl (Cell.blk (.head _) rfl)) ?_; clear hs; intro a w hs
      refine sy hs (za9 rfl) ?_; clear hs; intro a w hs
      refine sy hs (zde (places := [(0,1),(1,1),(2,1),(3,1),(4,1),(5,1),(6,1),(7,1),(8,1)]) (cs := gone) rfl Tryz.underlying42 ti42 (by kernel_rfl) (by decide) rfl ⟨rfl, trivial⟩) ?_; clear hs; intro a w hs
      refine sy hs (zac (Rd.st hs (.tail _ (.head _))) rfl rfl rfl hir Tryz.underlying28 ti42) ?_; clear hs; intro a w hs
      refine zhb (i := 1) (m := i) (r' := gone) hs rfl rfl rfl hri ti42 (AllC.row (r := gone) ⟨rfl, rfl, rfl, rfl, rfl, rfl, rfl, rfl, rfl, trivial⟩ rfl) (.free rfl) ?_; clear hs; intro a w hs
      replace hs : St 36 w0 f (.blk b1 (.cells #[v0] 30 (0,0)) :: .row v0 42 9 (rs.set i gone) :: (D2 ++ L)) _ a w := hs
      refine za1 ?_
      refine hK5 _ _ ?_; clear hK5
      refine za5 ?_
      refine sy hs (za9 rfl) ?_; clear hs; intro a w hs
      refine sy hs (zgh rfl rfl rfl) ?_; clear hs; intro a w hs
      refine sy hs (zb2 rfl) ?_; clear hs; intro a w hs
      refine za1 ?_
      refine hK2 k _ _ (Nat.lt_succ_self _) ⟨i + 1, rs.set i gone, D2, by omega, by simpa using hrs, fun j' hj' => ?_, hF, hN, ?_⟩
      · rw [List.getElem?_set_ne (by omega)]; exact hsame j' (by omega)
      · rw [← zbz (show i ≤ 9223372036854775806 by omega)]
        exact hs.sub ⟨rfl, rfl, trivial⟩
  · refine ze7 ?_
    refine hB1 _ _ ?_
    refine RtV0 hs rfl ?_
    exact ⟨rfl,((hs.cw.drop 2).drop D'.length |> fun h => by simpa using h)⟩
theorem letall {f0 f' : Fz} {L : List Ent} {w0 w : World} (hC : Cw w0 f' L w) (hle : Fz.le f0 f') : ∃ D : List Ent, FreeB D ∧ Cw w0 f0 (D ++ L) w ∧ ∀ v k rows, Rd (fy f0 f') [] v k rows → Rd fz0 D v k rows := by
  have hD : ∀ b, b ∈ (List.range w.heap.size).filter (fun b => (fy f0 f' b).isSome) ↔ ∃ o, fy f0 f' b = some o := fun b => by
    rw [List.mem_filter, List.mem_range, Option.isSome_iff_exists]
    constructor
    · exact fun h => h.2
    · rintro ⟨o, h⟩
      exact ⟨(Array.getElem?_eq_some_iff.1 (hC.frz b o (fy_le b o h))).1, o, h⟩
  refine ⟨blks ((List.range w.heap.size).filter (fun b => (fy f0 f' b).isSome)) f', fun e he => ?_, hC.letgo hle (List.nodup_range.filter _) fun b hb => ?_, fun v k rows h => h.letgo fun b o hb _ => (hD b).2 ⟨o, hb⟩⟩
  · obtain ⟨b, o, h1, h2, rfl⟩ := zlj.1 he
    obtain ⟨o', ho'⟩ := (hD b).1 h1
    obtain ⟨_, h4, h5⟩ := zhe.1 ho'
    rw [h2] at h4
    cases h4
    unfold Obj.free at h5
    split at h5
    · exact ⟨b, _, _, rfl⟩
    · cases h5
  · obtain ⟨o, ho⟩ := (hD b).1 hb
    exact (zhe.1 ho).1
theorem perm3' {α : Type} (X G R : List α) : (X ++ (G ++ R)).Perm (G ++ (X ++ R)) := by
  rw [← List.append_assoc, ← List.append_assoc]
  exact List.perm_append_comm.append_right _
theorem zug {g : Fz} {D : List Ent} (hg : ∀ v k rows, Rd g [] v k rows → Rd fz0 D v k rows) : ∀ {rows : List (List Value)} {xs : List zah}, RW zba g rows xs → (∀ x ∈ xs, x.Attrs.length ≤ 1000000) → ∀ r ∈ rows, NodeR D r
  | [],[], _, _, r, hr => by cases hr
  | r0 :: rows, x :: xs, ⟨h1, h2⟩, hb, r, hr => by
    rcases List.mem_cons.1 hr with rfl | hr
    · obtain ⟨v0, rfl, rw0, hR, hW⟩ := h1
      have hR' := hg _ _ _ hR
      obtain ⟨ao, cap, hv, _⟩ := hR.val
      exact ⟨x, v0, rfl, AOK.of hR', ao, _, cap, hv, by rw [hW.len]; exact hb x (by simp)⟩
    · exact zug hg h2 (fun y hy => hb y (by simp [hy])) r hr
  | [], _ :: _, h, _, _, _ => h.elim
  | _ :: _,[], h, _, _, _ => h.elim
theorem ztk {f : Fz} {v0 : Value} {rows : List (List Value)} {D : List Ent} (hD : FreeB D) (hr : ∀ r ∈ rows, NodeR D r) (hlen : rows.length ≤ 1000000) :
    Does Tryz.prog 9 [.agg #[v0]] f (.row v0 42 9 rows :: D) (fun v f' L' => v = .tuple #[] ∧ f' = f ∧ L' = []) := fun w0 L w hC =>
  (zpm hD hr hlen w0 L w hC).mono fun _ _ ⟨h1, h2⟩ => ⟨_, f,[], h1, .refl f, h2, rfl, rfl, rfl⟩
end Go.Proofs.YtdjjeahiomackaaGreat
