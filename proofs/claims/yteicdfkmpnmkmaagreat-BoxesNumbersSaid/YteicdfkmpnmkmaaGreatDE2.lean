/-
  Walks and laws of this seat; the base is the text Base.
-/
import Derived.Test.YteicdfkmpnmkmaaGreatDE
namespace Go.D
open Go.RowKit Go.Sl
/-! ## Blocks: laid, read, written -/
theorem BR.ofCells {w : World} {σ : Sg} {b x k len : Nat} {c : Tr (List C)} {e ty : TypeId} {ex : Bool} {cs : Array Value} {fr : Nat × Nat} (hb : w.heap[b]? = some (.cells cs ty fr)) (hf : fr = (0, 0) ∨ cs.size ≤ fr.1)
    (hsz : (len + x) * k ≤ cs.size) (hx : ex = true → x = 0) (hr : ∀ q row, q < len → c.get q = some row → row.length = k ∧ ∃ vs, CL σ row vs ∧ ∀ r v, vs[r]? = some v → cs[q * k + r]? = some v) : BR w σ b x (.cells k c len e ex) := by
  have hc : ∀ j, w.cell? ⟨b, j, none⟩ = cs[j]? := fun j => by simp [World.cell?, hb]
  refine ⟨hx, fun j hj => ⟨?_, ?_⟩, fun q row hq hrow => ?_⟩
  · rw [hc, Array.getElem?_eq_getElem (by omega)]; rfl
  · simp only [World.frozen?, hb]
    rcases hf with rfl | hf
    · simp
    · have : ¬ fr.1 ≤ j := by omega
      simp [this]
  · obtain ⟨h1, vs, h2, h3⟩ := hr q row hq hrow
    exact ⟨h1, vs, h2, fun r v hv => by rw [hc]; exact h3 r v hv⟩
theorem grew_drew (w : World) (o : Obj) : Grew w (w.drew.alloc o) none := ⟨rfl, rfl, rfl, by simp, fun k hk _ => heap_alloc_old w.drew o hk⟩
theorem Grew.setCells (b : Nat) : ∀ (vs : List Value) (o : Nat) (w : World), Grew w (w.setCells b o vs) (some b)
  | [], _, _ => ⟨rfl, rfl, rfl, Nat.le_refl _, fun _ _ _ => rfl⟩
  | v :: r, o, w => by
    have h1 := Grew.setCell w ⟨b, o, none⟩ v
    have h2 := Grew.setCells b r (o + 1) (w.setCell ⟨b, o, none⟩ v)
    refine ⟨h2.os.trans h1.os, h2.tape.trans h1.tape, h2.output.trans h1.output, Nat.le_trans h1.size h2.size, fun k hk hb => ?_⟩
    show ((w.setCell ⟨b, o, none⟩ v).setCells b (o + 1) r).heap[k]? = _
    rw [h2.block k (Nat.lt_of_lt_of_le hk h1.size) hb, h1.block k hk hb]

section
variable {α : Type}
theorem rdC_inv {k : Nat} {c : Tr (List C)} {len o n : Nat} {K : List C → Option α} {r : α} (e : rdC k c len o n K = some r) : ∃ row l, o / k < len ∧ c.get (o / k) = some row ∧ ((n = k ∧ o % k = 0 ∧ l = row) ∨ (o % k + n ≤ row.length ∧ l = (row.drop (o % k)).take n)) ∧ K l = some r := by
  obtain ⟨h1, e⟩ := iff_inv e
  obtain ⟨row, h2, e⟩ := oc_inv e
  refine ⟨row, ?_⟩
  have e : (Bool.rec (dropK (Nat.mod o k) row fun r => takeK n r K) (Bool.rec none (K row) (Nat.beq (Nat.mod o k) 0)) (Nat.beq n k) : Option α) = some r := e
  cases q : Nat.beq n k with
  | true =>
    rw [q] at e
    cases q2 : Nat.beq (Nat.mod o k) 0 with
    | true => rw [q2] at e; exact ⟨row, blt_iff h1, h2, .inl ⟨beq_iff' q, beq_iff' q2, rfl⟩, e⟩
    | false => rw [q2] at e; exact nn e
  | false =>
    rw [q] at e
    obtain ⟨h3, e⟩ := dropK_inv _ _ _ _ e
    obtain ⟨h4, e⟩ := takeK_inv _ _ _ _ e
    have h3 : o % k ≤ row.length := h3
    have h4 : n ≤ (row.drop (o % k)).length := h4
    rw [List.length_drop] at h4
    exact ⟨_, blt_iff h1, h2, .inr ⟨by omega, rfl⟩, e⟩
end
/-- What is read. -/
theorem BR.rd {w : World} {σ : Sg} {b x k len o n : Nat} {c : Tr (List C)} {e : TypeId} {ex : Bool} {row l : List C} (H : BR w σ b x (.cells k c len e ex)) (h1 : o / k < len) (h2 : c.get (o / k) = some row)
    (h3 : (n = k ∧ o % k = 0 ∧ l = row) ∨ (o % k + n ≤ row.length ∧ l = (row.drop (o % k)).take n)) : ∃ us, CL σ l us ∧ us.length = n ∧ ∀ j u, us[j]? = some u → w.cell? ⟨b, o + j, none⟩ = some u := by
  obtain ⟨_, _, H⟩ := H
  obtain ⟨g1, vs, g2, g3⟩ := H _ row h1 h2
  have hm : o / k * k + o % k = o := by rw [Nat.mul_comm]; exact Nat.div_add_mod o k
  rcases h3 with ⟨rfl, h4, rfl⟩ | ⟨h4, rfl⟩
  · refine ⟨vs, g2, by rw [g2.len, g1], fun j u hj => ?_⟩
    have := g3 j u hj
    rw [h4] at hm
    rw [show o / n * n = o by omega] at this
    exact this
  · refine ⟨(vs.drop (o % k)).take n, (g2.drop _).take _, ?_, fun j u hj => ?_⟩
    · have := g2.len
      simp; omega
    · rw [List.getElem?_take] at hj
      split at hj
      · rw [List.getElem?_drop] at hj
        have := g3 _ u hj
        rw [show o / k * k + (o % k + j) = o + j by omega] at this
        exact this
      · cases hj

/-- Some cells of one row are written over. -/
theorem BR.wr {w : World} {σ : Sg} {b x k len o : Nat} {c c' : Tr (List C)} {e : TypeId} {ex : Bool} {row xs : List C} {us : List Value} (H : BR w σ b x (.cells k c len e ex)) (h1 : o / k < len) (h2 : c.get (o / k) = some row) (hk : 0 < k)
    (h3 : o % k + xs.length ≤ row.length) (hu : CL σ xs us) (hc : ∀ j, c'.get j = if j = o / k then some (row.take (o % k) ++ xs ++ row.drop (o % k + xs.length)) else c.get j) :
    (∀ j, j < us.length → (w.cell? ⟨b, o + j, none⟩).isSome = true ∧ w.frozen? ⟨b, o + j, none⟩ = false) ∧ BR (w.setCells b o us) σ b x (.cells k c' len e ex) := by
  obtain ⟨h0, hcells, hrows⟩ := H
  obtain ⟨g1, vs, g2, g3⟩ := hrows _ row h1 h2
  have hm : o / k * k + o % k = o := by rw [Nat.mul_comm]; exact Nat.div_add_mod o k
  have hul := hu.len
  have hvl := g2.len
  have hmod : o % k < k := Nat.mod_lt _ hk
  have hq : (o / k + 1) * k ≤ len * k := Nat.mul_le_mul_right _ h1
  have hq2 : (o / k + 1) * k = o / k * k + k := Nat.succ_mul _ _
  have hx : len * k ≤ (len + x) * k := Nat.mul_le_mul_right _ (Nat.le_add_right _ _)
  have hin : ∀ j, j < us.length → o + j < (len + x) * k := fun j hj => by omega
  refine ⟨fun j hj => hcells _ (hin j hj), h0, fun j hj => ⟨?_, ?_⟩, fun q row' hq' hr' => ?_⟩
  · by_cases hh : o ≤ j ∧ j < o + us.length
    · have := World.cell?_setCells_in b us o w (fun i hi => (hcells _ (hin i hi)).1) (j - o) (by omega)
      rw [show o + (j - o) = j by omega] at this
      rw [this]; rfl
    · rw [World.cell?_setCells_out b us o w ⟨b, j, none⟩ (fun _ _ => by simp only; omega)]
      exact (hcells j hj).1
  · rw [World.frozen?_setCells]; exact (hcells j hj).2
  · rw [hc] at hr'
    by_cases eq : q = o / k
    · rw [if_pos eq] at hr'
      cases hr'
      subst eq
      refine ⟨by simp; omega, vs.take (o % k) ++ us ++ vs.drop (o % k + xs.length), (((g2.take _).append hu).append (g2.drop _)), fun r v hv => ?_⟩
      have ht : (vs.take (o % k)).length = o % k := by simp; omega
      by_cases c1 : r < o % k
      · rw [List.append_assoc, List.getElem?_append_left (by omega), List.getElem?_take_of_lt c1] at hv
        rw [World.cell?_setCells_out b us o w _ (fun _ _ => by simp only; omega)]
        exact g3 r v hv
      · by_cases c2 : r < o % k + us.length
        · rw [List.append_assoc, List.getElem?_append_right (by omega), ht, List.getElem?_append_left (by omega)] at hv
          have := World.cell?_setCells_in b us o w (fun i hi => (hcells _ (hin i hi)).1) (r - o % k) (by omega)
          rw [show o / k * k + r = o + (r - o % k) by omega, this]
          rw [List.getElem?_eq_getElem (by omega)] at hv
          exact hv
        · rw [List.getElem?_append_right (by simp; omega)] at hv
          have hl2 : (vs.take (o % k) ++ us).length = o % k + us.length := by simp; omega
          rw [hl2, List.getElem?_drop, show o % k + xs.length + (r - (o % k + us.length)) = r by omega] at hv
          rw [World.cell?_setCells_out b us o w _ (fun _ _ => by simp only; omega)]
          exact g3 r v hv
    · rw [if_neg eq] at hr'
      obtain ⟨f1, ws, f2, f3⟩ := hrows q row' hq' hr'
      refine ⟨f1, ws, f2, fun r v hv => ?_⟩
      have hrl : r < k := by
        have := (List.getElem?_eq_some_iff.1 hv).1
        have := f2.len
        omega
      rw [World.cell?_setCells_out b us o w _ (fun _ _ => ?_)]
      · exact f3 r v hv
      · simp only
        rcases Nat.lt_or_ge q (o / k) with hlt | hge
        · left
          have : (q + 1) * k ≤ o / k * k := Nat.mul_le_mul_right _ hlt
          have : (q + 1) * k = q * k + k := Nat.succ_mul _ _
          omega
        · right
          have : (o / k + 1) * k ≤ q * k := Nat.mul_le_mul_right _ (by omega)
          omega

/-- Rows and the cells that they take. -/
def RC (σ : Sg) (k : Nat) (l : List (List C)) (news : List Value) : Prop := news.length = l.length * k ∧ (∀ v ∈ news, v.oneCell' = true) ∧ ∀ q row, l[q]? = some row → row.length = k ∧ ∃ vs, CL σ row vs ∧ ∀ r v, vs[r]? = some v → news[q * k + r]? = some v
theorem RC.le {σ τ : Sg} {k : Nat} {l : List (List C)} {news : List Value} (h : RC σ k l news) (hl : σ.le τ) : RC τ k l news := ⟨h.1, h.2.1, fun q row hq => by
  obtain ⟨h1, vs, h2, h3⟩ := h.2.2 q row hq
  exact ⟨h1, vs, h2.le hl, h3⟩⟩

/-- Whole rows are written. -/
theorem BR.wrRows {w : World} {σ : Sg} {b x k len q0 : Nat} {c c' : Tr (List C)} {e : TypeId} {ex : Bool} {l : List (List C)} {us : List Value} (H : BR w σ b x (.cells k c len e ex)) (h1 : q0 + l.length ≤ len + x)
    (hu : RC σ k l us) {len' x' : Nat} {ex' : Bool} (hl : len' + x' = len + x) (hlen : len' ≤ len ∨ len' = q0 + l.length) (hge : q0 ≤ len) (hx : ex' = true → x' = 0) (hc : ∀ j, c'.get j = if q0 ≤ j ∧ j < q0 + l.length then l[j - q0]? else c.get j) :
    (∀ j, j < us.length → (w.cell? ⟨b, q0 * k + j, none⟩).isSome = true ∧ w.frozen? ⟨b, q0 * k + j, none⟩ = false) ∧ BR (w.setCells b (q0 * k) us) σ b x' (.cells k c' len' e ex') := by
  obtain ⟨h0, hcells, hrows⟩ := H
  obtain ⟨u1, u2, u3⟩ := hu
  have hin : ∀ j, j < us.length → q0 * k + j < (len + x) * k := fun j hj => by
    have : (q0 + l.length) * k ≤ (len + x) * k := Nat.mul_le_mul_right _ h1
    rw [Nat.add_mul] at this
    omega
  refine ⟨fun j hj => hcells _ (hin j hj), hx, fun j hj => ⟨?_, ?_⟩, fun q row' hq' hr' => ?_⟩
  · rw [hl] at hj
    by_cases hh : q0 * k ≤ j ∧ j < q0 * k + us.length
    · have := World.cell?_setCells_in b us (q0 * k) w (fun i hi => (hcells _ (hin i hi)).1) (j - q0 * k) (by omega)
      rw [show q0 * k + (j - q0 * k) = j by omega] at this
      rw [this]; rfl
    · rw [World.cell?_setCells_out b us _ w ⟨b, j, none⟩ (fun _ _ => by simp only; omega)]
      exact (hcells j hj).1
  · rw [hl] at hj
    rw [World.frozen?_setCells]; exact (hcells j hj).2
  · rw [hc] at hr'
    by_cases eq : q0 ≤ q ∧ q < q0 + l.length
    · rw [if_pos eq] at hr'
      obtain ⟨f1, ws, f2, f3⟩ := u3 _ _ hr'
      refine ⟨f1, ws, f2, fun r v hv => ?_⟩
      have hr := f3 r v hv
      have hlt := (List.getElem?_eq_some_iff.1 hr).1
      have := World.cell?_setCells_in b us (q0 * k) w (fun i hi => (hcells _ (hin i hi)).1) _ hlt
      rw [List.getElem?_eq_getElem hlt] at hr
      rw [← hr, ← this]
      congr 2
      rw [Nat.sub_mul]
      have : q0 * k ≤ q * k := Nat.mul_le_mul_right _ eq.1
      omega
    · rw [if_neg eq] at hr'
      obtain ⟨f1, ws, f2, f3⟩ := hrows q row' (by omega) hr'
      refine ⟨f1, ws, f2, fun r v hv => ?_⟩
      have hrl : r < k := by
        have := (List.getElem?_eq_some_iff.1 hv).1
        have := f2.len
        omega
      rw [World.cell?_setCells_out b us _ w _ (fun _ _ => ?_)]
      · exact f3 r v hv
      · simp only
        rcases Nat.lt_or_ge q q0 with hlt | hge
        · left
          have : (q + 1) * k ≤ q0 * k := Nat.mul_le_mul_right _ hlt
          have : (q + 1) * k = q * k + k := Nat.succ_mul _ _
          omega
        · right
          have : (q0 + l.length) * k ≤ q * k := Nat.mul_le_mul_right _ (by omega)
          rw [Nat.add_mul] at this
          omega
end Go.D
