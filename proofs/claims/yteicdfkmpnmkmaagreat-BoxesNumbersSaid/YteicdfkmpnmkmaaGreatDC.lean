/-
  Walks and laws of this seat; the base is the text Base.
-/
import Derived.Test.YteicdfkmpnmkmaaGreatDB
import Derived.Test.YteicdfkmpnmkmaaGreatBasg
import Derived.Deep.AppendSrc
import Derived.Laws.IdiomStrings
namespace Go.D
open Go.RowKit Go.Sl

/-! ## What the executor's data say of the program's -/
/-- Names: each stands for a block, whose row has so much more room than the executor knows of. -/
abbrev Sg := Nat → Option (Nat × Nat)
def Sg.le (σ τ : Sg) : Prop := ∀ a p, σ a = some p → τ a = some p
theorem Sg.le.refl (σ : Sg) : Sg.le σ σ := fun _ _ h => h
theorem Sg.le.trans {a b c : Sg} (h : Sg.le a b) (g : Sg.le b c) : Sg.le a c := fun _ _ e => g _ _ (h _ _ e)

def byl (s : ByteArray) : List Nat := s.data.toList.map UInt8.toNat

def PL (σ : Sg) : List (Nat × Nat) → List Value → Prop
  | [], [] => True
  | (b, o) :: l, v :: r => (∃ b' x, σ b = some (b', x) ∧ v = .pointer (some ⟨b', o, none⟩)) ∧ PL σ l r
  | _, _ => False
def CC (σ : Sg) : C → Value → Prop
  | .b x, v => v = .bool x
  | .i k n, v => v = .int k n
  | .s l, v => ∃ s, v = .string s ∧ byl s = l
  | .pn, v => v = .pointer none
  | .p b o, v => ∃ b' x, σ b = some (b', x) ∧ v = .pointer (some ⟨b', o, none⟩)
  | .sn, v => v = .slice none 0 0
  | .sl b o l c, v => ∃ b' x, σ b = some (b', x) ∧ (v = .slice (some ⟨b', o, none⟩) l (c + x) ∨ (l = 0 ∧ c = 0 ∧ ∃ o', v = .slice (some ⟨b', o', none⟩) 0 0))
  | .mn, v => v = .map none
  | .m r, v => ∃ b' x, σ r = some (b', x) ∧ v = .map (some b')
  | .nf, v => v = .nilFunc
  | .fn f fs cs, v => ∃ a b, PL σ fs a ∧ PL σ cs b ∧ v = .func (.func f) a.toArray b.toArray
def CL (σ : Sg) : List C → List Value → Prop
  | [], [] => True
  | c :: l, v :: r => CC σ c v ∧ CL σ l r
  | _, _ => False
def CU (σ : Sg) : U → Value → Prop
  | .c x, v => CC σ x v
  | .a l, v => ∃ cs, v = .agg cs.toArray ∧ CL σ l cs
def UL (σ : Sg) : List U → List Value → Prop
  | [], [] => True
  | c :: l, v :: r => CU σ c v ∧ UL σ l r
  | _, _ => False
def CV (σ : Sg) : V → Value → Prop
  | .c x, v => CC σ x v
  | .a l, v => ∃ cs, v = .agg cs.toArray ∧ CL σ l cs
  | .t l, v => ∃ cs, v = .tuple cs.toArray ∧ UL σ l cs
def VL (σ : Sg) : List V → List Value → Prop
  | [], [] => True
  | c :: l, v :: r => CV σ c v ∧ VL σ l r
  | _, _ => False

section
variable {σ τ : Sg}
theorem PL.le (h : σ.le τ) : ∀ {l : List (Nat × Nat)} {r : List Value}, PL σ l r → PL τ l r
  | [], [], _ => trivial
  | (_, _) :: _, _ :: _, ⟨⟨b', x, h1, h2⟩, h3⟩ => ⟨⟨b', x, h _ _ h1, h2⟩, PL.le h h3⟩
theorem CC.le (h : σ.le τ) {c : C} {v : Value} (hc : CC σ c v) : CC τ c v := by
  cases c <;> first | exact hc | skip
  · obtain ⟨b', x, h1, h2⟩ := hc; exact ⟨b', x, h _ _ h1, h2⟩
  · obtain ⟨b', x, h1, h2⟩ := hc; exact ⟨b', x, h _ _ h1, h2⟩
  · obtain ⟨b', x, h1, h2⟩ := hc; exact ⟨b', x, h _ _ h1, h2⟩
  · obtain ⟨a, b, h1, h2, h3⟩ := hc; exact ⟨a, b, h1.le h, h2.le h, h3⟩
theorem CL.le (h : σ.le τ) : ∀ {l : List C} {r : List Value}, CL σ l r → CL τ l r
  | [], [], _ => trivial
  | _ :: _, _ :: _, ⟨h1, h2⟩ => ⟨h1.le h, CL.le h h2⟩
theorem CU.le (h : σ.le τ) {u : U} {v : Value} (hc : CU σ u v) : CU τ u v := by
  cases u with
  | c x => exact CC.le h hc
  | a l => obtain ⟨cs, h1, h2⟩ := hc; exact ⟨cs, h1, h2.le h⟩
theorem UL.le (h : σ.le τ) : ∀ {l : List U} {r : List Value}, UL σ l r → UL τ l r
  | [], [], _ => trivial
  | _ :: _, _ :: _, ⟨h1, h2⟩ => ⟨h1.le h, UL.le h h2⟩
theorem CV.le (h : σ.le τ) {u : V} {v : Value} (hc : CV σ u v) : CV τ u v := by
  cases u with
  | c x => exact CC.le h hc
  | a l => obtain ⟨cs, h1, h2⟩ := hc; exact ⟨cs, h1, h2.le h⟩
  | t l => obtain ⟨cs, h1, h2⟩ := hc; exact ⟨cs, h1, h2.le h⟩
theorem VL.le (h : σ.le τ) : ∀ {l : List V} {r : List Value}, VL σ l r → VL τ l r
  | [], [], _ => trivial
  | _ :: _, _ :: _, ⟨h1, h2⟩ => ⟨h1.le h, VL.le h h2⟩

theorem CC.one {c : C} {v : Value} (h : CC σ c v) : v.oneCell' = true := by
  cases c <;> simp only [CC] at h
  all_goals first
    | (subst h; rfl)
    | (obtain ⟨_, rfl, _⟩ := h; rfl)
    | (obtain ⟨_, _, _, rfl⟩ := h; rfl)
    | (obtain ⟨_, _, _, rfl | ⟨_, _, _, rfl⟩⟩ := h <;> rfl)
    | (obtain ⟨_, _, _, _, rfl⟩ := h; rfl)
theorem CC.cells {c : C} {v : Value} (h : CC σ c v) : v.cells = #[v] := by
  have := h.one
  cases v <;> first | rfl | simp [Value.oneCell'] at this
theorem CL.len : ∀ {l : List C} {r : List Value}, CL σ l r → r.length = l.length
  | [], [], _ => rfl
  | _ :: _, _ :: _, ⟨_, h2⟩ => by simp [CL.len h2]
theorem CL.one : ∀ {l : List C} {r : List Value}, CL σ l r → ∀ v ∈ r, v.oneCell' = true
  | [], [], _, _, h => by simp at h
  | _ :: _, _ :: _, ⟨h1, h2⟩, v, h => by
    rcases List.mem_cons.1 h with rfl | h
    · exact h1.one
    · exact CL.one h2 v h
theorem CL.get : ∀ {l : List C} {r : List Value} {i : Nat} {c : C}, CL σ l r → l[i]? = some c → ∃ v, r[i]? = some v ∧ CC σ c v
  | _ :: _, _ :: _, 0, c, ⟨h1, _⟩, h => by simp at h; subst h; exact ⟨_, rfl, h1⟩
  | _ :: _, _ :: _, i + 1, c, ⟨_, h2⟩, h => by
    obtain ⟨v, h3, h4⟩ := CL.get (i := i) h2 (by simpa using h)
    exact ⟨v, by simpa using h3, h4⟩
theorem CL.take : ∀ {l : List C} {r : List Value} (n : Nat), CL σ l r → CL σ (l.take n) (r.take n)
  | _, _, 0, _ => by simp [CL]
  | [], [], _ + 1, _ => by simp [CL]
  | _ :: _, _ :: _, n + 1, ⟨h1, h2⟩ => ⟨h1, CL.take n h2⟩
theorem CL.drop : ∀ {l : List C} {r : List Value} (n : Nat), CL σ l r → CL σ (l.drop n) (r.drop n)
  | _, _, 0, h => by simpa using h
  | [], [], _ + 1, _ => by simp [CL]
  | _ :: _, _ :: _, n + 1, ⟨_, h2⟩ => by simpa using CL.drop n h2
theorem CL.append : ∀ {l l2 : List C} {r r2 : List Value}, CL σ l r → CL σ l2 r2 → CL σ (l ++ l2) (r ++ r2)
  | [], _, [], _, _, h => h
  | _ :: _, _, _ :: _, _, ⟨h1, h2⟩, h => ⟨h1, CL.append h2 h⟩
theorem UL.get : ∀ {l : List U} {r : List Value} {i : Nat} {c : U}, UL σ l r → l[i]? = some c → ∃ v, r[i]? = some v ∧ CU σ c v
  | _ :: _, _ :: _, 0, c, ⟨h1, _⟩, h => by simp at h; subst h; exact ⟨_, rfl, h1⟩
  | _ :: _, _ :: _, i + 1, c, ⟨_, h2⟩, h => by
    obtain ⟨v, h3, h4⟩ := UL.get (i := i) h2 (by simpa using h)
    exact ⟨v, by simpa using h3, h4⟩
theorem VL.append : ∀ {l l2 : List V} {r r2 : List Value}, VL σ l r → VL σ l2 r2 → VL σ (l ++ l2) (r ++ r2)
  | [], _, [], _, _, h => h
  | _ :: _, _, _ :: _, _, ⟨h1, h2⟩, h => ⟨h1, VL.append h2 h⟩
theorem PL.vl : ∀ {l : List (Nat × Nat)} {r : List Value}, PL σ l r → VL σ (l.map fun p => V.c (.p p.1 p.2)) r
  | [], [], _ => trivial
  | (_, _) :: _, _ :: _, ⟨h1, h2⟩ => ⟨h1, PL.vl h2⟩
theorem VL.pl : ∀ {l : List (Nat × Nat)} {r : List Value}, VL σ (l.map fun p => V.c (.p p.1 p.2)) r → PL σ l r
  | [], [], _ => trivial
  | (_, _) :: _, _ :: _, ⟨h1, h2⟩ => ⟨h1, VL.pl h2⟩
/-- The cells of a value. -/
theorem CV.cells {v : V} {u : Value} {l : List C} (h : CV σ v u) (hl : (∃ x, v = .c x ∧ l = [x]) ∨ v = .a l) : CL σ l u.cells.toList := by
  rcases hl with ⟨x, rfl, rfl⟩ | rfl
  · have h : CC σ x u := h
    rw [h.cells]
    exact ⟨h, trivial⟩
  · obtain ⟨cs, rfl, h⟩ := h
    exact h
end

/-! ## Blocks -/
def MR (σ : Sg) : List (List Nat × C) → List (ByteArray × Value) → Prop
  | [], [] => True
  | (k, c) :: l, (s, v) :: r => (byl s = k ∧ CC σ c v) ∧ MR σ l r
  | _, _ => False
theorem MR.le {σ τ : Sg} (h : σ.le τ) : ∀ {l : List (List Nat × C)} {r : List (ByteArray × Value)}, MR σ l r → MR τ l r
  | [], [], _ => trivial
  | (_, _) :: _, (_, _) :: _, ⟨⟨h1, h2⟩, h3⟩ => ⟨⟨h1, h2.le h⟩, MR.le h h3⟩

/-- A block of the executor's, and the program's block b, with room for x elements more. -/
def BR (w : World) (σ : Sg) (b x : Nat) : AO → Prop
  | .cells k c len _ ex => (ex = true → x = 0) ∧ (∀ j, j < (len + x) * k → (w.cell? ⟨b, j, none⟩).isSome = true ∧ w.frozen? ⟨b, j, none⟩ = false) ∧
      ∀ q row, q < len → c.get q = some row → row.length = k ∧ ∃ vs, CL σ row vs ∧ ∀ r v, vs[r]? = some v → w.cell? ⟨b, q * k + r, none⟩ = some v
  | .iter rest pos => x = 0 ∧ ∃ s, w.heap[b]? = some (.stringIter s pos) ∧ (byl s).drop pos = rest
  | .map es => x = 0 ∧ ∃ en cl m, w.heap[b]? = some (.map en cl) ∧ SMap en.toList m ∧ MR σ es m
  | .dead => True
theorem BR.le {w : World} {σ τ : Sg} {b x : Nat} {o : AO} (h : BR w σ b x o) (hl : σ.le τ) : BR w τ b x o := by
  cases o with
  | cells k c len e ex =>
    obtain ⟨h1, h2, h3⟩ := h
    refine ⟨h1, h2, fun q row hq hr => ?_⟩
    obtain ⟨g1, vs, g2, g3⟩ := h3 q row hq hr
    exact ⟨g1, vs, g2.le hl, g3⟩
  | iter rest pos => exact h
  | map es =>
    obtain ⟨h0, en, cl, m, h1, h2, h3⟩ := h
    exact ⟨h0, en, cl, m, h1, h2, h3.le hl⟩
  | dead => trivial
theorem cell_same {w w' : World} {b j : Nat} (h : w'.heap[b]? = w.heap[b]?) : w'.cell? ⟨b, j, none⟩ = w.cell? ⟨b, j, none⟩ := by simp [World.cell?, h]
theorem frozen_same {w w' : World} {b j : Nat} (h : w'.heap[b]? = w.heap[b]?) : w'.frozen? ⟨b, j, none⟩ = w.frozen? ⟨b, j, none⟩ := by simp [World.frozen?, h]
theorem BR.same {w w' : World} {σ : Sg} {b x : Nat} {o : AO} (h : BR w σ b x o) (he : w'.heap[b]? = w.heap[b]?) : BR w' σ b x o := by
  cases o with
  | cells k c len e ex =>
    obtain ⟨h1, h2, h3⟩ := h
    refine ⟨h1, fun j hj => by rw [cell_same he, frozen_same he]; exact h2 j hj, fun q row hq hr => ?_⟩
    obtain ⟨g1, vs, g2, g3⟩ := h3 q row hq hr
    exact ⟨g1, vs, g2, fun r v hv => by rw [cell_same he]; exact g3 r v hv⟩
  | iter rest pos => simp only [BR] at h ⊢; rw [he]; exact h
  | map es => simp only [BR] at h ⊢; rw [he]; exact h
  | dead => trivial

/-! ## The heap -/
structure HR (w0 : World) (Φ : Fz) (σ : Sg) (h : Nat → Option AO) (w : World) : Prop where
  cw : Cw w0 Φ [] w
  live : ∀ a o, h a = some o → o ≠ .dead → ∃ b x, σ a = some (b, x) ∧ Φ b = none ∧ b < w.heap.size ∧ BR w σ b x o
  sep : ∀ a a' o o' b x x', h a = some o → h a' = some o' → o ≠ .dead → o' ≠ .dead → σ a = some (b, x) → σ a' = some (b, x') → a = a'

def set1 (h : Nat → Option AO) (n : Nat) (o : AO) : Nat → Option AO := fun a => if a = n then some o else h a
def sgSet (σ : Sg) (n b x : Nat) : Sg := fun a => if a = n then some (b, x) else σ a
theorem sgSet_le {σ : Sg} {n b x : Nat} (h : σ n = none) : σ.le (sgSet σ n b x) := fun a p e => by
  unfold sgSet
  split
  · rename_i q; rw [q, h] at e; cases e
  · exact e
theorem sgSet_at {σ : Sg} {n b x : Nat} : sgSet σ n b x n = some (b, x) := by simp [sgSet]

theorem nilKept {w0 w w' : World} {Φ : Fz} {b : Nat} (h : Cw w0 Φ [] w) (hg : Grew w w' (some b)) (hb : Φ b = none) : Cw w0 Φ [] w' := by
  refine ⟨hg.os.trans h.os, hg.tape.trans h.tape, hg.output.trans h.output, Nat.le_trans h.size hg.size, fun c o hc => ?_, fun e he => by simp at he, fun e he => by simp at he, fun i j x y hi => by simp at hi⟩
  rw [hg.block c (h.fz_lt hc) (fun e => by cases e; rw [hb] at hc; cases hc)]
  exact h.frz c o hc

variable {w0 w w' : World} {Φ : Fz} {σ σ' : Sg} {h : Nat → Option AO}

/-- A new block. -/
theorem HR.alloc {n b x : Nat} {o : AO} (H : HR w0 Φ σ h w) (hn : σ n = none) (hg : Grew w w' none) (hb : w.heap.size ≤ b) (hs : b < w'.heap.size) (ho : BR w' (sgSet σ n b x) b x o) :
    HR w0 Φ (sgSet σ n b x) (set1 h n o) w' := by
  have hΦ : Φ b = none := by
    cases e : Φ b with
    | none => rfl
    | some q => have := H.cw.fz_lt e; omega
  refine ⟨H.cw.step hg, fun a p ha hp => ?_, fun a a' p p' c y y' ha ha' hp hp' hc hc' => ?_⟩
  · unfold set1 at ha
    split at ha
    · rename_i e; subst e; cases ha
      exact ⟨b, x, sgSet_at, hΦ, hs, ho⟩
    · obtain ⟨c, y, h1, h2, h3, h4⟩ := H.live a p ha hp
      exact ⟨c, y, sgSet_le hn _ _ h1, h2, Nat.lt_of_lt_of_le h3 hg.size, (h4.same (hg.block c h3 (by simp))).le (sgSet_le hn)⟩
  · unfold set1 at ha ha'
    by_cases e : a = n <;> by_cases e' : a' = n
    · rw [e, e']
    · rw [if_neg e'] at ha'
      subst e
      rw [sgSet_at] at hc
      cases hc
      obtain ⟨c, y, h1, _, h3, _⟩ := H.live a' p' ha' hp'
      rw [sgSet_le hn _ _ h1] at hc'
      cases hc'
      omega
    · rw [if_neg e] at ha
      subst e'
      rw [sgSet_at] at hc'
      cases hc'
      obtain ⟨c, y, h1, _, h3, _⟩ := H.live a p ha hp
      rw [sgSet_le hn _ _ h1] at hc
      cases hc
      omega
    · rw [if_neg e] at ha
      rw [if_neg e'] at ha'
      simp only [sgSet, e, e', if_false] at hc hc'
      exact H.sep a a' p p' c y y' ha ha' hp hp' hc hc'

/-- A block turned. -/
theorem HR.write {n b x : Nat} {o o' : AO} (H : HR w0 Φ σ h w) (hn : h n = some o) (hd : o ≠ .dead) (hb : σ n = some (b, x)) (hg : Grew w w' (some b)) (ho : BR w' σ b x o') : HR w0 Φ σ (set1 h n o') w' := by
  obtain ⟨b0, x0, h1, h2, h3, _⟩ := H.live n o hn hd
  rw [hb] at h1
  cases h1
  refine ⟨nilKept H.cw hg h2, fun a p ha hp => ?_, fun a a' p p' c y y' ha ha' hp hp' hc hc' => ?_⟩
  · unfold set1 at ha
    split at ha
    · rename_i e; subst e; cases ha
      exact ⟨b, x, hb, h2, Nat.lt_of_lt_of_le h3 hg.size, ho⟩
    · rename_i e
      obtain ⟨c, y, g1, g2, g3, g4⟩ := H.live a p ha hp
      refine ⟨c, y, g1, g2, Nat.lt_of_lt_of_le g3 hg.size, g4.same (hg.block c g3 fun q => e ?_)⟩
      cases q
      exact H.sep a n p o _ y x ha hn hp hd g1 hb
  · unfold set1 at ha ha'
    by_cases e : a = n <;> by_cases e' : a' = n
    · rw [e, e']
    · rw [if_neg e'] at ha'
      subst e
      exact H.sep a a' o p' c y y' hn ha' hd hp' hc hc'
    · rw [if_neg e] at ha
      subst e'
      exact H.sep a a' p o c y y' ha hn hp hd hc hc'
    · rw [if_neg e] at ha
      rw [if_neg e'] at ha'
      exact H.sep a a' p p' c y y' ha ha' hp hp' hc hc'

/-- A block that is not looked at any more. -/
theorem HR.kill {n : Nat} (H : HR w0 Φ σ h w) : HR w0 Φ σ (set1 h n .dead) w := by
  refine ⟨H.cw, fun a p ha hp => ?_, fun a a' p p' c y y' ha ha' hp hp' hc hc' => ?_⟩
  · unfold set1 at ha
    split at ha
    · cases ha; exact absurd rfl hp
    · exact H.live a p ha hp
  · unfold set1 at ha ha'
    split at ha
    · cases ha; exact absurd rfl hp
    split at ha'
    · cases ha'; exact absurd rfl hp'
    exact H.sep a a' p p' c y y' ha ha' hp hp' hc hc'

/-- Blocks set aside: they are kept as they are. -/
theorem HR.aside {h1 : Nat → Option AO} (H : HR w0 Φ σ h w) (hs : ∀ a o, h1 a = some o → h a = some o) : HR w0 Φ σ h1 w :=
  ⟨H.cw, fun a o ha => H.live a o (hs a o ha), fun a a' o o' b x x' ha ha' => H.sep a a' o o' b x x' (hs a o ha) (hs a' o' ha')⟩
end Go.D
