/-
  Walks and laws of this seat.
-/
import Derived.Test.YtdjjeahiomackaaGreatKE
namespace Go.Proofs.YtdjjeahiomackaaGreat
set_option linter.unusedVariables false
set_option linter.unusedSimpArgs false
set_option linter.unusedSectionVars false
open Go.RowKit Go.Sl Go.ChangeShapes Go.WideShapes Go.ChangeAt
theorem zrn {H : Type} : ∀ {l : List (DataW H)} {d : DataW H}, d ∈ l → Rows.uptoBulk d ≤ Rows.uptoBulkAll l
  | x :: r, d, h => by
    simp only [Rows.uptoBulkAll]
    rcases List.mem_cons.1 h with rfl | e
    · omega
    · have := zrn e; omega
section
variable {α : Type} {P : Program}
def OpW (P : Program) (T : TypeId) (t : Ty α) (W : α → Nat) : Prop :=
  ∀ (H : Type) (enc : TypeId × Value → H) (w : World) (n : Nat) (cs : List Value) (x : DataW H × List MemPlace),
    DataW.trod enc P w 0 (fun _ => true) true n T cs = some x → ∃ a, t.R (whole w) cs a ∧ W a ≤ Rows.uptoBulk x.1
theorem opw_int {T : TypeId} {k : IntKind} (ht : P.underlying T = some (.int k)) : OpW P T (tInt k) fun _ => 1 := fun H enc w n cs x h => by
  obtain ⟨i, rfl, rfl, _⟩ := DataW.trod_int ht h
  exact ⟨i, rfl, Nat.le_refl _⟩
theorem opw_bool {T : TypeId} (ht : P.underlying T = some .bool) : OpW P T tBool fun _ => 1 := fun H enc w n cs x h => by
  obtain ⟨b, rfl, rfl⟩ := DataW.trod_bool ht h
  exact ⟨b, rfl, Nat.le_refl _⟩
theorem zpm {T : TypeId} (ht : P.underlying T = some .string) : OpW P T tStr fun s => s.size + 1 := fun H enc w n cs x h => by
  obtain ⟨s, rfl, rfl, _⟩ := DataW.trod_string ht h
  exact ⟨s, rfl, Nat.le_refl _⟩
theorem sum_at {α β : Type} {f : α → Nat} {g : β → Nat} : ∀ {l : List α} {m : List β}, l.length = m.length → (∀ (i : Nat) x y, l[i]? = some x → m[i]? = some y → f x ≤ g y) → (l.map f).sum ≤ (m.map g).sum
  | [],[], _, _ => Nat.le_refl _
  | x :: l, y :: m, h, g => by
    have h1 := sum_at (l := l) (m := m) (by simpa using h) fun i a b ha hb => g (i + 1) a b (by simpa using ha) (by simpa using hb)
    have h2 := g 0 x y rfl rfl
    simp only [List.map_cons, List.sum_cons]; omega
theorem ztl {H : Type} : ∀ l : List (DataW H), Rows.uptoBulkAll l = (l.map Rows.uptoBulk).sum
  | [] => rfl
  | x :: r => by rw [Rows.uptoBulkAll, List.map_cons, List.sum_cons, ztl r]
theorem zr1 {T e : TypeId} {t : Ty α} {W : α → Nat} (ht : P.underlying T = some (.slice e)) (hk : P.cellsOf e = t.k) (hk0 : 0 < t.k) (h : OpW P e t W) : OpW P T (tSl t) fun l => (l.map W).sum + 1 := fun H enc w n cs x hx => by
  rcases DataW.trod_slice ht hx with ⟨rfl, rfl⟩ | ⟨a, len, cap, elems, rest, m, rfl, rfl, rfl, _, hl, hm, hlen, hel, _, _⟩
  · exact ⟨[], ⟨_, rfl, RS.nil⟩, by simp [Rows.uptoBulk]⟩
  · obtain ⟨l, l1, l2⟩ := zv7 (Q := fun i (p : List Value × α) => w.cells? 0 (a.add (i * P.cellsOf e)) (P.cellsOf e) = some p.1 ∧ t.R (whole w) p.1 p.2 ∧ ∃ y, elems[i]? = some y ∧ W p.2 ≤ Rows.uptoBulk y.1) len (fun i hi => by
      have h1 := hel i hi
      rw [List.getElem?_eq_getElem (by omega)] at h1
      obtain ⟨cs', h2, h3⟩ := Option.bind_eq_some_iff.1 h1
      obtain ⟨y, h4, h5⟩ := h H enc w m cs' _ h3
      exact ⟨(cs', y), h2, h4, _, List.getElem?_eq_getElem (by omega), h5⟩)
    refine ⟨l.map (·.2), ⟨_, rfl, l.map (·.1), ⟨?_, some a, cap, by rw [List.length_map, l1], by rw [List.length_map, l1]; exact hl, fun hh => (by cases hh), fun a' ha => ?_⟩, ?_⟩, ?_⟩
    · intro r hr
      obtain ⟨p, hp, rfl⟩ := List.mem_map.1 hr
      obtain ⟨i, hi⟩ := List.getElem?_of_mem hp
      exact t.one (l2 i p hi).2.1
    · cases ha
      obtain ⟨bb, off, sp⟩ := a
      by_cases h0 : len = 0
      · have : l = [] := List.eq_nil_of_length_eq_zero (by omega)
        subst this
        exact ⟨fun h => absurd rfl h, fun i r hr => by simp at hr⟩
      · have hsp : sp = none := by
          obtain ⟨p, hp⟩ : ∃ p, l[0]? = some p := ⟨_, List.getElem?_eq_getElem (by omega)⟩
          obtain ⟨_, hlen', hc⟩ := World.cells?_some (l2 0 p hp).1
          have h1 := hc 0 (by rw [hk]; exact hk0)
          rw [List.getElem?_eq_getElem (by rw [hlen', hk]; exact hk0)] at h1
          simpa [Addr.add] using World.cell?_spot h1
        subst hsp
        refine ⟨fun _ => rfl, fun i r hr j u hu => ?_⟩
        simp only [List.getElem?_map, Option.map_eq_some_iff] at hr
        obtain ⟨p, hp, rfl⟩ := hr
        obtain ⟨_, hlen', hc⟩ := World.cells?_some (l2 i p hp).1
        have hj : j < P.cellsOf e := by rw [← hlen']; exact (List.getElem?_eq_some_iff.1 hu).1
        have h1 := hc j hj
        rw [hu] at h1
        rw [add_lit, add_lit, Nat.add_assoc, hk] at h1
        exact zu6 h1 []
    · have : ∀ (l : List (List Value × α)),(∀ p ∈ l, t.R (whole w) p.1 p.2) → RW t (whole w) (l.map (·.1)) (l.map (·.2)) := by
        intro l
        induction l with
        | nil => intro _; exact trivial
        | cons p l ih => intro hh; exact ⟨hh p (by simp), ih fun q hq => hh q (by simp [hq])⟩
      exact this l fun p hp => by
        obtain ⟨i, hi⟩ := List.getElem?_of_mem hp
        exact (l2 i p hi).2.1
    · have h1 : ((l.map (·.2)).map W).sum ≤ ((elems.map (·.1)).map Rows.uptoBulk).sum := by
        rw [List.map_map, List.map_map]
        refine sum_at (by omega) fun i p y hp hy => ?_
        obtain ⟨_, _, z, hz, h5⟩ := l2 i p hp
        rw [hy] at hz; cases hz
        exact h5
      rw [← ztl] at h1
      simp only [Rows.uptoBulk]
      omega
theorem OpW.field {n i off sz : Nat} {H : Type} {enc : TypeId × Value → H} {w : World} {fd : Field} {t : Ty α} {W : α → Nat} {cs : List Value} {xs : List (DataW H × List MemPlace)} {fs : Array Field} (h : OpW P fd.type t W)
    (hf : fs[i]? = some fd) (ho : fd.offset = off) (hz : P.cellsOf fd.type = sz) (hl : xs.length = fs.size) (hx : DataW.trod enc P w 0 (fun _ => true) true n fd.type ((cs.drop fd.offset).take (P.cellsOf fd.type)) = xs[i]?) : ∃ a, t.R (whole w) ((cs.drop off).take sz) a ∧ ∃ y, xs[i]? = some y ∧ W a ≤ Rows.uptoBulk y.1 := by
  subst ho hz
  have hi : i < xs.length := by rw [hl]; exact (Array.getElem?_eq_some_iff.1 hf).1
  rw [List.getElem?_eq_getElem hi] at hx
  obtain ⟨a, h1, h2⟩ := h H enc w n _ _ hx
  exact ⟨a, h1, _, List.getElem?_eq_getElem hi, h2⟩
end
def bA (x : zam) : Nat := x.Name.size + x.Value.size + 3
def bK (x : za4) : Nat := x.Name.size + x.Text.size + (x.Attrs.map bA).sum + 6
set_option maxRecDepth 100000 in
theorem opw_Attr : OpW Tryz.prog 38 zch bA := by
  intro H enc w n cs x h
  obtain ⟨xs, m, rfl, rfl, hl, hxl, hf⟩ := DataW.trod_struct Tryz.underlying38 h
  have hl : cs.length = 2 := hl.trans (by kernel_rfl)
  match cs, hl with
  | [c0, c1], _ =>
  obtain ⟨a0, r0, y0, e0, s0⟩ := OpW.field (i := 0) (off := 0) (sz := 1) (zpm Tryz.underlying9) rfl rfl (show Tryz.prog.cellsOf 9 = 1 from by kernel_rfl) hxl (hf 0 _ rfl)
  obtain ⟨rfl, _⟩ := List.cons.inj (show [c0] = [.string a0] from r0)
  obtain ⟨a1, r1, y1, e1, s1⟩ := OpW.field (i := 1) (off := 1) (sz := 1) (zpm Tryz.underlying9) rfl rfl (show Tryz.prog.cellsOf 9 = 1 from by kernel_rfl) hxl (hf 1 _ rfl)
  obtain ⟨rfl, _⟩ := List.cons.inj (show [c1] = [.string a1] from r1)
  have hxl : xs.length = 2 := hxl
  match xs, hxl with
  | [_, _], _ =>
  cases e0; cases e1
  refine ⟨⟨a0, a1⟩, rfl, ?_⟩
  simp only [Rows.uptoBulk, Rows.uptoBulkAll, List.map_cons, List.map_nil, bA]
  omega
set_option maxRecDepth 100000 in
theorem zv1 : OpW Tryz.prog 27 zaf bK := by
  intro H enc w n cs x h
  obtain ⟨xs, m, rfl, rfl, hl, hxl, hf⟩ := DataW.trod_struct Tryz.underlying27 h
  have hl : cs.length = 5 := hl.trans (by kernel_rfl)
  match cs, hl with
  | [c0, c1, c2, c3, c4], _ =>
  obtain ⟨a0, r0, y0, e0, s0⟩ := OpW.field (i := 0) (off := 0) (sz := 1) (opw_int Tryz.underlying3) rfl rfl (show Tryz.prog.cellsOf 3 = 1 from by kernel_rfl) hxl (hf 0 _ rfl)
  obtain ⟨rfl, _⟩ := List.cons.inj (show [c0] = [.int .i64 a0] from r0)
  obtain ⟨a1, r1, y1, e1, s1⟩ := OpW.field (i := 1) (off := 1) (sz := 1) (zpm Tryz.underlying9) rfl rfl (show Tryz.prog.cellsOf 9 = 1 from by kernel_rfl) hxl (hf 1 _ rfl)
  obtain ⟨rfl, _⟩ := List.cons.inj (show [c1] = [.string a1] from r1)
  obtain ⟨a2, r2, y2, e2, s2⟩ := OpW.field (i := 2) (off := 2) (sz := 1) (zpm Tryz.underlying9) rfl rfl (show Tryz.prog.cellsOf 9 = 1 from by kernel_rfl) hxl (hf 2 _ rfl)
  obtain ⟨rfl, _⟩ := List.cons.inj (show [c2] = [.string a2] from r2)
  obtain ⟨a3, r3, y3, e3, s3⟩ := OpW.field (i := 3) (off := 3) (sz := 1) (zr1 Tryz.underlying25 (show Tryz.prog.cellsOf 38 = 2 from by kernel_rfl) (show 0 < 2 from by decide) opw_Attr) rfl rfl (show Tryz.prog.cellsOf 25 = 1 from by kernel_rfl) hxl (hf 3 _ rfl)
  obtain ⟨v3, r3, q3⟩ : ∃ v,[c3] = [v] ∧ RS zch (whole w) v a3 := r3
  obtain ⟨rfl, _⟩ := List.cons.inj r3
  obtain ⟨a4, r4, y4, e4, s4⟩ := OpW.field (i := 4) (off := 4) (sz := 1) (opw_bool Tryz.underlying4) rfl rfl (show Tryz.prog.cellsOf 4 = 1 from by kernel_rfl) hxl (hf 4 _ rfl)
  obtain ⟨rfl, _⟩ := List.cons.inj (show [c4] = [.bool a4] from r4)
  have hxl : xs.length = 5 := hxl
  match xs, hxl with
  | [_, _, _, _, _], _ =>
  cases e0; cases e1; cases e2; cases e3; cases e4
  refine ⟨⟨a0, a1, a2, a3, a4⟩, ⟨_, rfl, q3⟩, ?_⟩
  simp only [Rows.uptoBulk, Rows.uptoBulkAll, List.map_cons, List.map_nil, bK]
  omega
theorem zty : OpW Tryz.prog 22 (tSl zaf) fun l => (l.map bK).sum + 1 := zr1 Tryz.underlying22 (show Tryz.prog.cellsOf 27 = 5 from by kernel_rfl) (show 0 < 5 from by decide) zv1
end Go.Proofs.YtdjjeahiomackaaGreat
