/-
  Walks and laws of this seat.
-/
import Derived.Test.YteicdfkmpnmkmaaGreatBash
import Derived.Test.YteicdfkmpnmkmaaGreatRows
namespace Go.Proofs.YteicdfkmpnmkmaaGreat
set_option linter.unusedVariables false
set_option linter.unusedSimpArgs false
set_option linter.unusedSectionVars false
open Go.RowKit Go.Sl Go.ChangeShapes Go.WideShapes Go.ChangeAt
theorem bulk_one {H : Type} (d : DataW H) : 1 ≤ Rows.uptoBulk d := by
  cases d with
  | lit l => cases l <;> simp [Rows.uptoBulk]
  | nil => simp [Rows.uptoBulk]
  | ptr d => simp [Rows.uptoBulk]
  | slice elems spare => simp [Rows.uptoBulk]
  | agg parts => simp [Rows.uptoBulk]
  | iface t d => simp [Rows.uptoBulk]
  | map entries => simp [Rows.uptoBulk]
  | held h => simp [Rows.uptoBulk]
theorem zt6 {H : Type} : ∀ {l : List (DataW H)} {d : DataW H}, d ∈ l → Rows.uptoBulk d ≤ Rows.uptoBulkAll l
  | x :: r, d, h => by
    simp only [Rows.uptoBulkAll]
    rcases List.mem_cons.1 h with rfl | e
    · omega
    · have := zt6 e; omega
theorem zrp {H : Type} : ∀ l : List (DataW H), l.length ≤ Rows.uptoBulkAll l
  | [] => by simp [Rows.uptoBulkAll]
  | x :: r => by have := bulk_one x; have := zrp r; simp only [Rows.uptoBulkAll, List.length_cons]; omega
section
variable {α : Type} {P : Program}
def OpB (N : Nat) (P : Program) (T : TypeId) (t : Ty α) (S : α → Prop) : Prop :=
  ∀ (H : Type) (enc : TypeId × Value → H) (w : World) (n : Nat) (cs : List Value) (x : DataW H × List MemPlace), n ≤ N →
    DataW.trod enc P w 0 (fun _ => true) true n T cs = some x → Rows.uptoBulk x.1 ≤ 1048576 → ∃ a, t.R (whole w) cs a ∧ S a
theorem OpB.le {N M : Nat} {T : TypeId} {t : Ty α} {S : α → Prop} (h : OpB M P T t S) (hN : N ≤ M) : OpB N P T t S := fun H enc w n cs x hn => h H enc w n cs x (by omega)
def SstrB (s : ByteArray) : Prop := s.size ≤ 1048576
def SslB (S : α → Prop) (xs : List α) : Prop := xs.length ≤ 1048576 ∧ ∀ x ∈ xs, S x
theorem ztu {N : Nat} {T : TypeId} {k : IntKind} (ht : P.underlying T = some (.int k)) : OpB N P T (tInt k) (Sint k) := fun H enc w n cs x _ h _ => by
  obtain ⟨i, rfl, _, hw⟩ := DataW.trod_int ht h
  exact ⟨i, rfl, hw⟩
theorem zyu {N : Nat} {T : TypeId} (ht : P.underlying T = some .string) : OpB N P T tStr SstrB := fun H enc w n cs x _ h hw => by
  obtain ⟨s, rfl, rfl, _⟩ := DataW.trod_string ht h
  refine ⟨s, rfl, ?_⟩
  have h1 : s.data.toList.length + 1 ≤ 1048576 := hw
  have h2 : s.size = s.data.toList.length := rfl
  show s.size ≤ 1048576
  omega
theorem yfr {N : Nat} {T e : TypeId} {t : Ty α} {S : α → Prop} (ht : P.underlying T = some (.slice e)) (hk : P.cellsOf e = t.k) (hk0 : 0 < t.k) (h : OpB N P e t S) : OpB (N + 1) P T (tSl t) (SslB S) := fun H enc w n cs x hn hx hw => by
  rcases DataW.trod_slice ht hx with ⟨rfl, rfl⟩ | ⟨a, len, cap, elems, rest, m, rfl, rfl, rfl, _, hl, hm, hlen, hel, _, _⟩
  · exact ⟨[], ⟨_, rfl, RS.nil⟩, by simp [SslB]⟩
  · have hw' : elems.length + rest.length ≤ 1048576 ∧ ∀ d ∈ elems.map (·.1), Rows.uptoBulk d ≤ 1048576 := by
      simp only [Rows.uptoBulk] at hw
      have h1 := zrp (elems.map (·.1))
      have h2 := zrp (rest.map (·.1))
      rw [List.length_map] at h1 h2
      exact ⟨by omega, fun d hd => by have := zt6 hd; omega⟩
    obtain ⟨l, l1, l2⟩ := yg0 (Q := fun i (p : List Value × α) => w.cells? 0 (a.add (i * P.cellsOf e)) (P.cellsOf e) = some p.1 ∧ t.R (whole w) p.1 p.2 ∧ S p.2) len (fun i hi => by
      have h1 := hel i hi
      rw [List.getElem?_eq_getElem (by omega)] at h1
      obtain ⟨cs', h2, h3⟩ := Option.bind_eq_some_iff.1 h1
      obtain ⟨y, h4, h5⟩ := h H enc w m cs' _ (by omega) h3 (hw'.2 _ (List.mem_map_of_mem (List.getElem_mem _)))
      exact ⟨(cs', y), h2, h4, h5⟩)
    refine ⟨l.map (·.2), ⟨_, rfl, l.map (·.1), ⟨?_, some a, cap, by rw [List.length_map, l1], by rw [List.length_map, l1]; exact hl, fun hh => (by cases hh), fun a' ha => ?_⟩, ?_⟩, ?_, ?_⟩
    · intro r hr
      obtain ⟨p, hp, rfl⟩ := List.mem_map.1 hr
      obtain ⟨i, hi⟩ := List.getElem?_of_mem hp
      exact t.one (l2 i p hi).2.1
    · cases ha
      obtain ⟨bb, off, sp⟩ := a
      by_cases h0 : len = 0
      · have : l = [] := List.eq_nil_of_length_eq_zero (by omega)
        subst this
        exact ⟨fun h => absurd rfl h, fun i r hr => by simp at hr⟩
      · have hsp : sp = none := by
          obtain ⟨p, hp⟩ : ∃ p, l[0]? = some p := ⟨_, List.getElem?_eq_getElem (by omega)⟩
          obtain ⟨_, hlen', hc⟩ := World.cells?_some (l2 0 p hp).1
          have h1 := hc 0 (by rw [hk]; exact hk0)
          rw [List.getElem?_eq_getElem (by rw [hlen', hk]; exact hk0)] at h1
          simpa [Addr.add] using World.cell?_spot h1
        subst hsp
        refine ⟨fun _ => rfl, fun i r hr j u hu => ?_⟩
        simp only [List.getElem?_map, Option.map_eq_some_iff] at hr
        obtain ⟨p, hp, rfl⟩ := hr
        obtain ⟨_, hlen', hc⟩ := World.cells?_some (l2 i p hp).1
        have hj : j < P.cellsOf e := by rw [← hlen']; exact (List.getElem?_eq_some_iff.1 hu).1
        have h1 := hc j hj
        rw [hu] at h1
        rw [add_lit, add_lit, Nat.add_assoc, hk] at h1
        exact yek h1 []
    · have : ∀ (l : List (List Value × α)),(∀ p ∈ l, t.R (whole w) p.1 p.2) → RW t (whole w) (l.map (·.1)) (l.map (·.2)) := by
        intro l
        induction l with
        | nil => intro _; exact trivial
        | cons p l ih => intro hh; exact ⟨hh p (by simp), ih fun q hq => hh q (by simp [hq])⟩
      exact this l fun p hp => by
        obtain ⟨i, hi⟩ := List.getElem?_of_mem hp
        exact (l2 i p hi).2.1
    · rw [List.length_map, l1]
      omega
    · intro y hy
      obtain ⟨p, hp, rfl⟩ := List.mem_map.1 hy
      obtain ⟨i, hi⟩ := List.getElem?_of_mem hp
      exact (l2 i p hi).2.2
theorem opb_sl {N : Nat} {T e : TypeId} {t : Ty α} {S : α → Prop} (ht : P.underlying T = some (.slice e)) (hk : P.cellsOf e = t.k) (hk0 : 0 < t.k) (h : OpB N P e t S) : OpB N P T (tSl t) (SslB S) := (yfr ht hk hk0 h).le (by omega)
theorem OpB.field {N n i off sz : Nat} {H : Type} {enc : TypeId × Value → H} {w : World} {fd : Field} {t : Ty α} {S : α → Prop} {cs : List Value} {xs : List (DataW H × List MemPlace)} {T : TypeId} {fs : Array Field} (h : OpB N P fd.type t S) (hn : n ≤ N)
    (hf : fs[i]? = some fd) (ho : fd.offset = off) (hz : P.cellsOf fd.type = sz) (hl : xs.length = fs.size) (hx : DataW.trod enc P w 0 (fun _ => true) true n fd.type ((cs.drop fd.offset).take (P.cellsOf fd.type)) = xs[i]?) (_ : P.underlying T = some (.struct fs))
    (hw : Rows.uptoBulk (DataW.agg (xs.map (·.1))) ≤ 1048576) : ∃ a, t.R (whole w) ((cs.drop off).take sz) a ∧ S a := by
  subst ho hz
  have hi : i < xs.length := by rw [hl]; exact (Array.getElem?_eq_some_iff.1 hf).1
  rw [List.getElem?_eq_getElem hi] at hx
  refine h H enc w n _ _ hn hx ?_
  have h1 : xs[i].1 ∈ xs.map (·.1) := List.mem_map_of_mem (List.getElem_mem _)
  have h2 := zt6 h1
  simp only [Rows.uptoBulk] at hw
  omega
theorem bulk_arg {H : Type} {ds : List (DataW H)} (h : Rows.uptoSmall H ds = true) {j : Nat} {d : DataW H} (hd : ds[j]? = some d) : Rows.uptoBulk d ≤ 1048576 := by
  have h1 : Rows.uptoBulkAll ds ≤ 1048576 := of_decide_eq_true h
  have h2 := zt6 (List.mem_of_getElem? hd)
  omega
end
end Go.Proofs.YteicdfkmpnmkmaaGreat
