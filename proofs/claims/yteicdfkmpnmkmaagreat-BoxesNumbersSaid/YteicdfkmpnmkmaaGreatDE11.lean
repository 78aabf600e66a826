/-
  Walks and laws of this seat; the base is the text Base.
-/
import Derived.Test.YteicdfkmpnmkmaaGreatDE10
namespace Go.D
open Go.RowKit Go.Sl
section
variable {α : Type} {P : Program} {E : Env} {m : Nat} {t : Tr V} {lc : Ls} {h : H} {n : Nat} {k : KO α} {r : α}
variable (hE : ∀ t ti, E.tt.get t = some ti → TIok P t ti)

/-! ## append -/
/-- Cells that are there, as a list. -/
theorem cells_list {w : World} {b o m : Nat} (h : ∀ j, j < m → (w.cell? ⟨b, o + j, none⟩).isSome = true) : ∃ us : List Value, us.length = m ∧ ∀ j u, us[j]? = some u ↔ (j < m ∧ w.cell? ⟨b, o + j, none⟩ = some u) := by
  refine ⟨(List.range m).map fun j => (w.cell? ⟨b, o + j, none⟩).getD undef, by simp, fun j u => ?_⟩
  by_cases hj : j < m
  · obtain ⟨v, hv⟩ := Option.isSome_iff_exists.1 (h j hj)
    simp [hj, hv]
  · simp [hj]
/-- Rows of a block, as cells. -/
theorem rows_cells {w : World} {σ : Sg} {b x k len q0 m : Nat} {c : Tr (List C)} {e : TypeId} {ex : Bool} {l : List (List C)} (H : BR w σ b x (.cells k c len e ex)) (hq : q0 + m ≤ len) (hl : l.length = m) (hc : ∀ j, j < m → l[j]? = c.get (q0 + j)) :
    ∃ us : List Value, us.length = m * k ∧ (∀ j u, us[j]? = some u → w.cell? ⟨b, q0 * k + j, none⟩ = some u) ∧ RC σ k l us := by
  obtain ⟨_, hcells, hrows⟩ := H
  have hmk : q0 * k + m * k ≤ (len + x) * k := by
    rw [← Nat.add_mul]; exact Nat.mul_le_mul_right _ (by omega)
  obtain ⟨us, h1, h2⟩ := cells_list (w := w) (b := b) (o := q0 * k) (m := m * k) (fun j hj => (hcells _ (by omega)).1)
  have hrow : ∀ q row, l[q]? = some row → row.length = k ∧ ∃ vs, CL σ row vs ∧ ∀ r v, vs[r]? = some v → us[q * k + r]? = some v := fun q row hr => by
    have hqm : q < m := by
      have := (List.getElem?_eq_some_iff.1 hr).1
      omega
    rw [hc q hqm] at hr
    obtain ⟨g1, vs, g2, g3⟩ := hrows _ row (by omega) hr
    refine ⟨g1, vs, g2, fun r v hv => ?_⟩
    have hrk : r < k := by
      have := (List.getElem?_eq_some_iff.1 hv).1
      have := g2.len
      omega
    have : (q + 1) * k ≤ m * k := Nat.mul_le_mul_right _ hqm
    rw [Nat.succ_mul] at this
    refine (h2 _ v).2 ⟨by omega, ?_⟩
    have := g3 r v hv
    rwa [Nat.add_mul, Nat.add_assoc] at this
  refine ⟨us, h1, fun j u hj => ((h2 j u).1 hj).2, by rw [h1, hl], fun u hu => ?_, hrow⟩
  obtain ⟨j, hj, rfl⟩ := List.mem_iff_getElem.1 hu
  have hk : 0 < k := by
    rcases Nat.eq_zero_or_pos k with hk | hk
    · rw [hk, Nat.mul_zero] at h1; omega
    · exact hk
  have hjq : j / k < m := (Nat.div_lt_iff_lt_mul hk).2 (by omega)
  have hml : j / k < l.length := by omega
  obtain ⟨g1, vs, g2, g3⟩ := hrow (j / k) l[j / k] (List.getElem?_eq_getElem hml)
  have hmod : j % k < k := Nat.mod_lt _ hk
  have hvl : j % k < vs.length := by rw [g2.len, g1]; exact hmod
  have hjj : j / k * k + j % k = j := by rw [Nat.mul_comm]; exact Nat.div_add_mod j k
  have := g3 (j % k) vs[j % k] (List.getElem?_eq_getElem hvl)
  rw [hjj, List.getElem?_eq_getElem hj] at this
  have this := Option.some.inj this
  rw [this]
  exact g2.one _ (List.getElem_mem hvl)

/-- What is appended, at the run. -/
def SrcR (P : Program) (tx : TypeId) (sz : Nat) (y : V) (l : List (List C)) (ml : Nat) (rs : List Nat) (h : Nat → Option AO) : Prop :=
  l.length = ml ∧ (rs = [] ∨ ∃ b ob, rs = [b] ∧ h b = some ob ∧ ob ≠ .dead) ∧
  ∀ (σ : Sg) (u : Value) (w : World), CV σ y u → (∀ b ob, rs = [b] → h b = some ob → ∃ b' x, σ b = some (b', x) ∧ BR w σ b' x ob) → ∃ news, Src P sz tx u ml news w ∧ RC σ sz l news

include hE in
theorem srcK_inv {tx : TypeId} {tj : TI} {sz : Nat} {y : V} {K : List (List C) → Nat → List Nat → Option α} {r : α} (hx : E.tt.get tx = some tj) (e : srcK h sz y tj.d K = some r) : ∃ l ml rs, SrcR P tx sz y l ml rs h.get ∧ K l ml rs = some r := by
  obtain ⟨d, it, z, q1, q2, q3, q4, q5, q6, q7, _⟩ := (hE _ _ hx).ok
  revert e q7
  cases tj.d <;> intro e q7 <;> first | exact nn e | skip
  · have q7 : d = .string := q7
    subst q7
    obtain ⟨s, rfl, e1⟩ := strK_inv e
    rw [bytesC_eq, lenN_eq] at e1
    obtain ⟨h1, e2⟩ := iff_inv e1
    obtain rfl := beq_iff' h1
    refine ⟨_, _, _, ⟨by simp, .inl rfl, fun σ u w hu _ => ?_⟩, e2⟩
    obtain ⟨b, rfl, g2⟩ := hu
    have hbl : s.length = b.size := by rw [← g2, byl_len]
    have hS := Src.ofString (P := P) w q1 b
    rw [← hbl] at hS
    refine ⟨byteCells b, hS, by simp [byteCells_length, hbl], hS.one, fun q row hr => ?_⟩
    rw [List.getElem?_map] at hr
    cases hq : s[q]? with
    | none => rw [hq] at hr; cases hr
    | some c =>
      rw [hq] at hr
      cases hr
      refine ⟨rfl, [.int .u8 (c : Int)], ⟨rfl, trivial⟩, fun r v hv => ?_⟩
      cases r with
      | succ r => simp at hv
      | zero =>
        cases hv
        rw [Nat.mul_one, Nat.add_zero]
        rw [← g2] at hq
        unfold byl at hq
        rw [List.getElem?_map] at hq
        unfold byteCells
        rw [List.getElem?_map]
        cases hb : b.data.toList[q]? with
        | none => rw [hb] at hq; cases hq
        | some u => rw [hb] at hq; cases hq; rfl
  · rename_i el
    have q7 : d = .slice el := q7
    subst q7
    have nil : ∀ σ : Sg, RC σ sz [] [] := fun σ => ⟨by simp, fun _ h => by simp at h, fun q row h => by simp at h⟩
    rcases slK_inv e with ⟨rfl, e1⟩ | ⟨b, o, len, cap, rfl, e1⟩
    · refine ⟨[], 0, [], ⟨rfl, .inl rfl, fun σ u w hu _ => ?_⟩, e1⟩
      have hu : u = .slice none 0 0 := hu
      subst hu
      exact ⟨[], Src.ofNil w q1 0, nil σ⟩
    · cases len with
      | zero =>
        refine ⟨[], 0, [], ⟨rfl, .inl rfl, fun σ u w hu _ => ?_⟩, e1⟩
        obtain ⟨b', y, g1, rfl | ⟨_, _, o2, rfl⟩⟩ := hu
        · exact ⟨[], Src.ofSlice w q1 _ 0 _ [] (by simp) (fun j u h => by simp at h) (fun u h => by simp at h), nil σ⟩
        · exact ⟨[], Src.ofSlice w q1 _ 0 _ [] (by simp) (fun j u h => by simp at h) (fun u h => by simp at h), nil σ⟩
      | succ len =>
        obtain ⟨ob, h1, e2⟩ := oc_inv (e1 : oc (h.get b) _ = some r)
        obtain ⟨kk, c, bl, be, bx, rfl, e3⟩ := cellsK_inv e2
        obtain ⟨h2, e4⟩ := iff_inv e3
        obtain ⟨h3, e5⟩ := iff_inv e4
        obtain ⟨h4, e6⟩ := iff_inv e5
        obtain rfl := beq_iff' h2
        have h3 : o % kk = 0 := beq_iff' h3
        have h4 : o / kk + (len + 1) ≤ bl := ble_iff h4
        obtain ⟨l, h5, h6, e7⟩ := rows_inv _ _ _ _ _ e6
        refine ⟨l, len + 1, [b], ⟨h5, .inr ⟨b, _, rfl, h1, by simp⟩, fun σ u w hu hb => ?_⟩, e7⟩
        obtain ⟨b', x', g0, hB⟩ := hb b _ rfl h1
        obtain ⟨b2, y, g1, rfl | ⟨h, _⟩⟩ := hu
        · rw [g0] at g1; cases g1
          have ho : o / kk * kk = o := by
            have := Nat.div_add_mod o kk
            rw [h3, Nat.mul_comm] at this
            omega
          obtain ⟨us, f1, f2, f3⟩ := rows_cells hB h4 h5 h6
          rw [ho] at f2
          exact ⟨us, Src.ofSlice w q1 _ (len + 1) _ us f1 (fun j u hj => by rw [Sl.add_lit]; exact f2 j u hj) f3.2.1, f3⟩
        · cases h
end
end Go.D
