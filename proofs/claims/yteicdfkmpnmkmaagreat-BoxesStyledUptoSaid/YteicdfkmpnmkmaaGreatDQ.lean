/-
  Walks and laws of this seat.
-/
import Derived.Test.YteicdfkmpnmkmaaGreatDP
import Derived.Test.YteicdfkmpnmkmaaGreatBasg
import Derived.Deep.AppendSrc
import Derived.Laws.IdiomStrings
import Derived.Test.YteicdfkmpnmkmaaGreatBasf
import Derived.Great.FillDense
import Derived.Great.BuildSlice
import Derived.Laws.Cover4
import Derived.Laws.RangeString
namespace Go.D
set_option linter.unusedVariables false
set_option linter.unusedSimpArgs false
open Go.RowKit Go.Sl
abbrev Sg := Nat → Option (Nat × Nat)
def Sg.le (σ τ : Sg) : Prop := ∀ a p, σ a = some p → τ a = some p
theorem Sg.le.refl (σ : Sg) : Sg.le σ σ := fun _ _ h => h
theorem Sg.le.trans {a b c : Sg} (h : Sg.le a b) (g : Sg.le b c) : Sg.le a c := fun _ _ e => g _ _ (h _ _ e)
def byl (s : ByteArray) : List Nat := s.data.toList.map UInt8.toNat
def PL (σ : Sg) : List (Nat × Nat) → List Value → Prop
  | [], [] => True
  | (b, o) :: l, v :: r => (∃ b' x, σ b = some (b', x) ∧ v = .pointer (some ⟨b', o, none⟩)) ∧ PL σ l r
  | _, _ => False
def CC (σ : Sg) : C → Value → Prop
  | .b x, v => v = .bool x
  | .i k n, v => v = .int k n
  | .s l, v => ∃ s, v = .string s ∧ byl s = l
  | .pn, v => v = .pointer none
  | .p b o, v => ∃ b' x, σ b = some (b', x) ∧ v = .pointer (some ⟨b', o, none⟩)
  | .sn, v => v = .slice none 0 0
  | .sl b o l c, v => ∃ b' x, σ b = some (b', x) ∧ (v = .slice (some ⟨b', o, none⟩) l (c + x) ∨ (l = 0 ∧ c = 0 ∧ ∃ o', v = .slice (some ⟨b', o', none⟩) 0 0))
  | .mn, v => v = .map none
  | .m r, v => ∃ b' x, σ r = some (b', x) ∧ v = .map (some b')
  | .nf, v => v = .nilFunc
  | .fn f fs cs, v => ∃ a b, PL σ fs a ∧ PL σ cs b ∧ v = .func (.func f) a.toArray b.toArray
def CL (σ : Sg) : List C → List Value → Prop
  | [], [] => True
  | c :: l, v :: r => CC σ c v ∧ CL σ l r
  | _, _ => False
def CU (σ : Sg) : U → Value → Prop
  | .c x, v => CC σ x v
  | .a l, v => ∃ cs, v = .agg cs.toArray ∧ CL σ l cs
def UL (σ : Sg) : List U → List Value → Prop
  | [], [] => True
  | c :: l, v :: r => CU σ c v ∧ UL σ l r
  | _, _ => False
def CV (σ : Sg) : V → Value → Prop
  | .c x, v => CC σ x v
  | .a l, v => ∃ cs, v = .agg cs.toArray ∧ CL σ l cs
  | .t l, v => ∃ cs, v = .tuple cs.toArray ∧ UL σ l cs
def VL (σ : Sg) : List V → List Value → Prop
  | [], [] => True
  | c :: l, v :: r => CV σ c v ∧ VL σ l r
  | _, _ => False
section
variable {σ τ : Sg}
theorem PL.le (h : σ.le τ) : ∀ {l : List (Nat × Nat)} {r : List Value}, PL σ l r → PL τ l r
  | [], [], _ => trivial
  | (_, _) :: _, _ :: _, ⟨⟨b', x, h1, h2⟩, h3⟩ => ⟨⟨b', x, h _ _ h1, h2⟩, PL.le h h3⟩
theorem CC.le (h : σ.le τ) {c : C} {v : Value} (hc : CC σ c v) : CC τ c v := by
  cases c <;> first | exact hc | skip
  · obtain ⟨b', x, h1, h2⟩ := hc; exact ⟨b', x, h _ _ h1, h2⟩
  · obtain ⟨b', x, h1, h2⟩ := hc; exact ⟨b', x, h _ _ h1, h2⟩
  · obtain ⟨b', x, h1, h2⟩ := hc; exact ⟨b', x, h _ _ h1, h2⟩
  · obtain ⟨a, b, h1, h2, h3⟩ := hc; exact ⟨a, b, h1.le h, h2.le h, h3⟩
theorem CL.le (h : σ.le τ) : ∀ {l : List C} {r : List Value}, CL σ l r → CL τ l r
  | [], [], _ => trivial
  | _ :: _, _ :: _, ⟨h1, h2⟩ => ⟨h1.le h, CL.le h h2⟩
theorem CU.le (h : σ.le τ) {u : U} {v : Value} (hc : CU σ u v) : CU τ u v := by
  cases u with
  | c x => exact CC.le h hc
  | a l => obtain ⟨cs, h1, h2⟩ := hc; exact ⟨cs, h1, h2.le h⟩
theorem UL.le (h : σ.le τ) : ∀ {l : List U} {r : List Value}, UL σ l r → UL τ l r
  | [], [], _ => trivial
  | _ :: _, _ :: _, ⟨h1, h2⟩ => ⟨h1.le h, UL.le h h2⟩
theorem CV.le (h : σ.le τ) {u : V} {v : Value} (hc : CV σ u v) : CV τ u v := by
  cases u with
  | c x => exact CC.le h hc
  | a l => obtain ⟨cs, h1, h2⟩ := hc; exact ⟨cs, h1, h2.le h⟩
  | t l => obtain ⟨cs, h1, h2⟩ := hc; exact ⟨cs, h1, h2.le h⟩
theorem CC.one {c : C} {v : Value} (h : CC σ c v) : v.oneCell' = true := by
  cases c <;> simp only [CC] at h
  all_goals first
    | (subst h; rfl)
    | (obtain ⟨_, rfl, _⟩ := h; rfl)
    | (obtain ⟨_, _, _, rfl⟩ := h; rfl)
    | (obtain ⟨_, _, _, rfl | ⟨_, _, _, rfl⟩⟩ := h <;> rfl)
    | (obtain ⟨_, _, _, _, rfl⟩ := h; rfl)
theorem CC.cells {c : C} {v : Value} (h : CC σ c v) : v.cells = #[v] := by
  have := h.one
  cases v <;> first | rfl | simp [Value.oneCell'] at this
theorem CL.len : ∀ {l : List C} {r : List Value}, CL σ l r → r.length = l.length
  | [], [], _ => rfl
  | _ :: _, _ :: _, ⟨_, h2⟩ => by simp [CL.len h2]
theorem CL.one : ∀ {l : List C} {r : List Value}, CL σ l r → ∀ v ∈ r, v.oneCell' = true
  | [], [], _, _, h => by simp at h
  | _ :: _, _ :: _, ⟨h1, h2⟩, v, h => by
    rcases List.mem_cons.1 h with rfl | h
    · exact h1.one
    · exact CL.one h2 v h
theorem CL.take : ∀ {l : List C} {r : List Value} (n : Nat), CL σ l r → CL σ (l.take n) (r.take n)
  | _, _, 0, _ => by simp [CL]
  | [], [], _ + 1, _ => by simp [CL]
  | _ :: _, _ :: _, n + 1, ⟨h1, h2⟩ => ⟨h1, CL.take n h2⟩
theorem CL.drop : ∀ {l : List C} {r : List Value} (n : Nat), CL σ l r → CL σ (l.drop n) (r.drop n)
  | _, _, 0, h => by simpa using h
  | [], [], _ + 1, _ => by simp [CL]
  | _ :: _, _ :: _, n + 1, ⟨_, h2⟩ => by simpa using CL.drop n h2
theorem CL.append : ∀ {l l2 : List C} {r r2 : List Value}, CL σ l r → CL σ l2 r2 → CL σ (l ++ l2) (r ++ r2)
  | [], _, [], _, _, h => h
  | _ :: _, _, _ :: _, _, ⟨h1, h2⟩, h => ⟨h1, CL.append h2 h⟩
theorem UL.get : ∀ {l : List U} {r : List Value} {i : Nat} {c : U}, UL σ l r → l[i]? = some c → ∃ v, r[i]? = some v ∧ CU σ c v
  | _ :: _, _ :: _, 0, c, ⟨h1, _⟩, h => by simp at h; subst h; exact ⟨_, rfl, h1⟩
  | _ :: _, _ :: _, i + 1, c, ⟨_, h2⟩, h => by
    obtain ⟨v, h3, h4⟩ := UL.get (i := i) h2 (by simpa using h)
    exact ⟨v, by simpa using h3, h4⟩
theorem VL.append : ∀ {l l2 : List V} {r r2 : List Value}, VL σ l r → VL σ l2 r2 → VL σ (l ++ l2) (r ++ r2)
  | [], _, [], _, _, h => h
  | _ :: _, _, _ :: _, _, ⟨h1, h2⟩, h => ⟨h1, VL.append h2 h⟩
theorem PL.vl : ∀ {l : List (Nat × Nat)} {r : List Value}, PL σ l r → VL σ (l.map fun p => V.c (.p p.1 p.2)) r
  | [], [], _ => trivial
  | (_, _) :: _, _ :: _, ⟨h1, h2⟩ => ⟨h1, PL.vl h2⟩
theorem VL.pl : ∀ {l : List (Nat × Nat)} {r : List Value}, VL σ (l.map fun p => V.c (.p p.1 p.2)) r → PL σ l r
  | [], [], _ => trivial
  | (_, _) :: _, _ :: _, ⟨h1, h2⟩ => ⟨h1, VL.pl h2⟩
theorem CV.cells {v : V} {u : Value} {l : List C} (h : CV σ v u) (hl : (∃ x, v = .c x ∧ l = [x]) ∨ v = .a l) : CL σ l u.cells.toList := by
  rcases hl with ⟨x, rfl, rfl⟩ | rfl
  · have h : CC σ x u := h
    rw [h.cells]
    exact ⟨h, trivial⟩
  · obtain ⟨cs, rfl, h⟩ := h
    exact h
end
def MR (σ : Sg) : List (List Nat × C) → List (ByteArray × Value) → Prop
  | [], [] => True
  | (k, c) :: l, (s, v) :: r => (byl s = k ∧ CC σ c v) ∧ MR σ l r
  | _, _ => False
theorem MR.le {σ τ : Sg} (h : σ.le τ) : ∀ {l : List (List Nat × C)} {r : List (ByteArray × Value)}, MR σ l r → MR τ l r
  | [], [], _ => trivial
  | (_, _) :: _, (_, _) :: _, ⟨⟨h1, h2⟩, h3⟩ => ⟨⟨h1, h2.le h⟩, MR.le h h3⟩
def BR (w : World) (σ : Sg) (b x : Nat) : AO → Prop
  | .cells k c len _ ex => (ex = true → x = 0) ∧ (∀ j, j < (len + x) * k → (w.cell? ⟨b, j, none⟩).isSome = true ∧ w.frozen? ⟨b, j, none⟩ = false) ∧
      ∀ q row, q < len → c.get q = some row → row.length = k ∧ ∃ vs, CL σ row vs ∧ ∀ r v, vs[r]? = some v → w.cell? ⟨b, q * k + r, none⟩ = some v
  | .iter rest pos => x = 0 ∧ ∃ s, w.heap[b]? = some (.stringIter s pos) ∧ (byl s).drop pos = rest
  | .map es => x = 0 ∧ ∃ en cl m, w.heap[b]? = some (.map en cl) ∧ SMap en.toList m ∧ MR σ es m
  | .dead => True
theorem BR.le {w : World} {σ τ : Sg} {b x : Nat} {o : AO} (h : BR w σ b x o) (hl : σ.le τ) : BR w τ b x o := by
  cases o with
  | cells k c len e ex =>
    obtain ⟨h1, h2, h3⟩ := h
    refine ⟨h1, h2, fun q row hq hr => ?_⟩
    obtain ⟨g1, vs, g2, g3⟩ := h3 q row hq hr
    exact ⟨g1, vs, g2.le hl, g3⟩
  | iter rest pos => exact h
  | map es =>
    obtain ⟨h0, en, cl, m, h1, h2, h3⟩ := h
    exact ⟨h0, en, cl, m, h1, h2, h3.le hl⟩
  | dead => trivial
theorem cell_same {w w' : World} {b j : Nat} (h : w'.heap[b]? = w.heap[b]?) : w'.cell? ⟨b, j, none⟩ = w.cell? ⟨b, j, none⟩ := by simp [World.cell?, h]
theorem frozen_same {w w' : World} {b j : Nat} (h : w'.heap[b]? = w.heap[b]?) : w'.frozen? ⟨b, j, none⟩ = w.frozen? ⟨b, j, none⟩ := by simp [World.frozen?, h]
theorem BR.same {w w' : World} {σ : Sg} {b x : Nat} {o : AO} (h : BR w σ b x o) (he : w'.heap[b]? = w.heap[b]?) : BR w' σ b x o := by
  cases o with
  | cells k c len e ex =>
    obtain ⟨h1, h2, h3⟩ := h
    refine ⟨h1, fun j hj => by rw [cell_same he, frozen_same he]; exact h2 j hj, fun q row hq hr => ?_⟩
    obtain ⟨g1, vs, g2, g3⟩ := h3 q row hq hr
    exact ⟨g1, vs, g2, fun r v hv => by rw [cell_same he]; exact g3 r v hv⟩
  | iter rest pos => simp only [BR] at h ⊢; rw [he]; exact h
  | map es => simp only [BR] at h ⊢; rw [he]; exact h
  | dead => trivial
structure HR (w0 : World) (Φ : Fz) (σ : Sg) (h : Nat → Option AO) (w : World) : Prop where
  cw : Cw w0 Φ [] w
  live : ∀ a o, h a = some o → o ≠ .dead → ∃ b x, σ a = some (b, x) ∧ Φ b = none ∧ b < w.heap.size ∧ BR w σ b x o
  sep : ∀ a a' o o' b x x', h a = some o → h a' = some o' → o ≠ .dead → o' ≠ .dead → σ a = some (b, x) → σ a' = some (b, x') → a = a'
def set1 (h : Nat → Option AO) (n : Nat) (o : AO) : Nat → Option AO := fun a => if a = n then some o else h a
def sgSet (σ : Sg) (n b x : Nat) : Sg := fun a => if a = n then some (b, x) else σ a
theorem sgSet_le {σ : Sg} {n b x : Nat} (h : σ n = none) : σ.le (sgSet σ n b x) := fun a p e => by
  unfold sgSet
  split
  · rename_i q; rw [q, h] at e; cases e
  · exact e
theorem sgSet_at {σ : Sg} {n b x : Nat} : sgSet σ n b x n = some (b, x) := by simp [sgSet]
theorem nilKept {w0 w w' : World} {Φ : Fz} {b : Nat} (h : Cw w0 Φ [] w) (hg : Grew w w' (some b)) (hb : Φ b = none) : Cw w0 Φ [] w' := by
  refine ⟨hg.os.trans h.os, hg.tape.trans h.tape, hg.output.trans h.output, Nat.le_trans h.size hg.size, fun c o hc => ?_, fun e he => by simp at he, fun e he => by simp at he, fun i j x y hi => by simp at hi⟩
  rw [hg.block c (h.fz_lt hc) (fun e => by cases e; rw [hb] at hc; cases hc)]
  exact h.frz c o hc
variable {w0 w w' : World} {Φ : Fz} {σ σ' : Sg} {h : Nat → Option AO}
theorem HR.alloc {n b x : Nat} {o : AO} (H : HR w0 Φ σ h w) (hn : σ n = none) (hg : Grew w w' none) (hb : w.heap.size ≤ b) (hs : b < w'.heap.size) (ho : BR w' (sgSet σ n b x) b x o) :
    HR w0 Φ (sgSet σ n b x) (set1 h n o) w' := by
  have hΦ : Φ b = none := by
    cases e : Φ b with
    | none => rfl
    | some q => have := H.cw.fz_lt e; omega
  refine ⟨H.cw.step hg, fun a p ha hp => ?_, fun a a' p p' c y y' ha ha' hp hp' hc hc' => ?_⟩
  · unfold set1 at ha
    split at ha
    · rename_i e; subst e; cases ha
      exact ⟨b, x, sgSet_at, hΦ, hs, ho⟩
    · obtain ⟨c, y, h1, h2, h3, h4⟩ := H.live a p ha hp
      exact ⟨c, y, sgSet_le hn _ _ h1, h2, Nat.lt_of_lt_of_le h3 hg.size, (h4.same (hg.block c h3 (by simp))).le (sgSet_le hn)⟩
  · unfold set1 at ha ha'
    by_cases e : a = n <;> by_cases e' : a' = n
    · rw [e, e']
    · rw [if_neg e'] at ha'
      subst e
      rw [sgSet_at] at hc
      cases hc
      obtain ⟨c, y, h1, _, h3, _⟩ := H.live a' p' ha' hp'
      rw [sgSet_le hn _ _ h1] at hc'
      cases hc'
      omega
    · rw [if_neg e] at ha
      subst e'
      rw [sgSet_at] at hc'
      cases hc'
      obtain ⟨c, y, h1, _, h3, _⟩ := H.live a p ha hp
      rw [sgSet_le hn _ _ h1] at hc
      cases hc
      omega
    · rw [if_neg e] at ha
      rw [if_neg e'] at ha'
      simp only [sgSet, e, e', if_false] at hc hc'
      exact H.sep a a' p p' c y y' ha ha' hp hp' hc hc'
theorem HR.write {n b x : Nat} {o o' : AO} (H : HR w0 Φ σ h w) (hn : h n = some o) (hd : o ≠ .dead) (hb : σ n = some (b, x)) (hg : Grew w w' (some b)) (ho : BR w' σ b x o') : HR w0 Φ σ (set1 h n o') w' := by
  obtain ⟨b0, x0, h1, h2, h3, _⟩ := H.live n o hn hd
  rw [hb] at h1
  cases h1
  refine ⟨nilKept H.cw hg h2, fun a p ha hp => ?_, fun a a' p p' c y y' ha ha' hp hp' hc hc' => ?_⟩
  · unfold set1 at ha
    split at ha
    · rename_i e; subst e; cases ha
      exact ⟨b, x, hb, h2, Nat.lt_of_lt_of_le h3 hg.size, ho⟩
    · rename_i e
      obtain ⟨c, y, g1, g2, g3, g4⟩ := H.live a p ha hp
      refine ⟨c, y, g1, g2, Nat.lt_of_lt_of_le g3 hg.size, g4.same (hg.block c g3 fun q => e ?_)⟩
      cases q
      exact H.sep a n p o _ y x ha hn hp hd g1 hb
  · unfold set1 at ha ha'
    by_cases e : a = n <;> by_cases e' : a' = n
    · rw [e, e']
    · rw [if_neg e'] at ha'
      subst e
      exact H.sep a a' o p' c y y' hn ha' hd hp' hc hc'
    · rw [if_neg e] at ha
      subst e'
      exact H.sep a a' p o c y y' ha hn hp hd hc hc'
    · rw [if_neg e] at ha
      rw [if_neg e'] at ha'
      exact H.sep a a' p p' c y y' ha ha' hp hp' hc hc'
theorem HR.kill {n : Nat} (H : HR w0 Φ σ h w) : HR w0 Φ σ (set1 h n .dead) w := by
  refine ⟨H.cw, fun a p ha hp => ?_, fun a a' p p' c y y' ha ha' hp hp' hc hc' => ?_⟩
  · unfold set1 at ha
    split at ha
    · cases ha; exact absurd rfl hp
    · exact H.live a p ha hp
  · unfold set1 at ha ha'
    split at ha
    · cases ha; exact absurd rfl hp
    split at ha'
    · cases ha'; exact absurd rfl hp'
    exact H.sep a a' p p' c y y' ha ha' hp hp' hc hc'
end Go.D
namespace Go.D
set_option linter.unusedVariables false
set_option linter.unusedSimpArgs false
open Go.RowKit Go.Sl
structure SL (N : Nat) (σ : Sg) (T : Nat → Option V) (a : Act) : Prop where
  size : a.tmps.size = N
  defers : a.defers = []
  at_ : ∀ t v, T t = some v → ∃ u, a.tmps[t]? = some u ∧ CV σ v u
theorem SL.le {N : Nat} {σ τ : Sg} {T : Nat → Option V} {a : Act} (h : SL N σ T a) (hl : σ.le τ) : SL N τ T a := ⟨h.size, h.defers, fun t v e => by
  obtain ⟨u, h1, h2⟩ := h.at_ t v e
  exact ⟨u, h1, h2.le hl⟩⟩
def setT (T : Nat → Option V) (d : Option Tmp) (v : V) : Nat → Option V := fun t => if some t = d then some v else T t
theorem SL.put {N : Nat} {σ : Sg} {T : Nat → Option V} {a : Act} {d : Option Tmp} {v : V} {u : Value} (h : SL N σ T a) (hd : ∀ t, d = some t → t < N) (hv : CV σ v u) : SL N σ (setT T d v) (a.put d u) := by
  cases d with
  | none => exact ⟨h.size, h.defers, fun t w e => h.at_ t w (by simpa [setT] using e)⟩
  | some d =>
    refine ⟨by simp [Act.put, h.size], h.defers, fun t w e => ?_⟩
    have hlt := hd d rfl
    unfold setT at e
    by_cases q : some t = some d
    · rw [if_pos q] at e
      cases q; cases e
      exact ⟨u, by simp [Act.put, h.size, hlt], hv⟩
    · rw [if_neg q] at e
      obtain ⟨u', h1, h2⟩ := h.at_ t w e
      refine ⟨u', ?_, h2⟩
      have : d ≠ t := fun q' => q (by rw [q'])
      simp [Act.put, this, h1]
theorem CV_undef {σ : Sg} : CV σ unit undef := ⟨[], rfl, trivial⟩
def KV (c : Value) (v : V) : Prop := ∀ σ, CV σ v c
def opF (T : Nat → Option V) (x : Operand) (v : V) : Prop := match x with
  | .tmp t => T t = some v
  | .const c => KV c v
  | .func f => v = .c (.fn f [] [])
  | .global _ => False
section
variable {α : Type}
theorem const1_inv {c : Value} {k : C → Option α} {r : α} (h : const1 c k = some r) : ∃ x, (∀ σ, CC σ x c) ∧ k x = some r := by
  unfold const1 at h
  split at h
  · rw [fB_eq] at h; exact ⟨.b _, fun _ => rfl, h⟩
  · rw [fI_eq] at h; exact ⟨.i _ _, fun _ => rfl, h⟩
  · rw [byteL_eq] at h; exact ⟨.s _, fun _ => ⟨_, rfl, rfl⟩, h⟩
  · exact ⟨.pn, fun _ => rfl, h⟩
  · exact ⟨.sn, fun _ => rfl, h⟩
  · exact ⟨.mn, fun _ => rfl, h⟩
  · exact ⟨.nf, fun _ => rfl, h⟩
  · exact nn h
theorem constL_inv : ∀ (cs : List Value) (k : List C → Option α) (r : α), (List.rec (fun k => k []) (fun c _ ih k => const1 c fun v => ih fun l => k (v :: l)) cs : (List C → Option α) → Option α) k = some r → ∃ l, (∀ σ, CL σ l cs) ∧ k l = some r
  | [], k, r, h => ⟨[], fun _ => trivial, h⟩
  | c :: cs, k, r, h => by
    obtain ⟨x, h1, h⟩ := const1_inv (h : const1 c _ = some r)
    obtain ⟨l, h2, h3⟩ := constL_inv cs _ _ h
    exact ⟨x :: l, fun σ => ⟨h1 σ, h2 σ⟩, h3⟩
theorem constK_inv {c : Value} {k : V → Option α} {r : α} (h : constK c k = some r) : ∃ v, KV c v ∧ k v = some r := by
  unfold constK at h
  split at h
  · rename_i cs
    obtain ⟨l, h1, h2⟩ := constL_inv cs.toList _ _ h
    exact ⟨.a l, fun σ => ⟨cs.toList, rfl, h1 σ⟩, h2⟩
  · obtain ⟨x, h1, h2⟩ := const1_inv h
    exact ⟨.c x, fun σ => h1 σ, h2⟩
theorem opd_inv {m : Nat} {t : Tr V} {lc : Ls} {x : Operand} {k : V → Option α} {r : α} (h : opd m t lc x k = some r) : ∃ v, opF (opT m t lc) x v ∧ k v = some r := by
  cases x with
  | tmp x => obtain ⟨v, h1, h2⟩ := oc_inv (h : oc (opT m t lc x) k = some r); exact ⟨v, h1, h2⟩
  | const c => exact constK_inv h
  | global g => exact nn h
  | func f => exact ⟨_, rfl, h⟩
def opFs (T : Nat → Option V) : List Operand → List V → Prop
  | [], [] => True
  | x :: l, v :: r => opF T x v ∧ opFs T l r
  | _, _ => False
theorem opdL_inv {m : Nat} {t : Tr V} {lc : Ls} : ∀ {l : List Operand} {k : List V → Option α} {r : α}, opdL m t lc l k = some r → ∃ vs, opFs (opT m t lc) l vs ∧ k vs = some r
  | [], k, r, h => ⟨[], trivial, h⟩
  | x :: l, k, r, h => by
    obtain ⟨v, h1, h⟩ := opd_inv (h : opd m t lc x (fun v => opdL m t lc l fun vs => k (v :: vs)) = some r)
    obtain ⟨vs, h2, h3⟩ := opdL_inv h
    exact ⟨v :: vs, ⟨h1, h2⟩, h3⟩
end
def tmpsOf (x : Operand) : List Nat := match x with
  | .tmp t => [t]
  | _ => []
def opTmps (o : Op) : List Nat := o.operands.toList.flatMap tmpsOf
theorem opF.mono {T T2 : Nat → Option V} {x : Operand} {v : V} (h : opF T x v) (ht : ∀ t ∈ tmpsOf x, T2 t = T t) : opF T2 x v := by
  cases x with
  | tmp t => exact (ht t (by simp [tmpsOf])).trans h
  | _ => exact h
theorem opF.ev {N : Nat} {σ : Sg} {T : Nat → Option V} {a : Act} {x : Operand} {v : V} (h : opF T x v) (hs : SL N σ T a) : CV σ v (a.eval x) := by
  cases x with
  | tmp t =>
    obtain ⟨u, h1, h2⟩ := hs.at_ t v h
    have : a.eval (.tmp t) = u := by simp [Act.eval, Array.getD_eq_getD_getElem?, h1]
    rw [this]; exact h2
  | const c => exact h σ
  | global g => exact h.elim
  | func f =>
    have h : v = .c (.fn f [] []) := h
    subst h
    exact ⟨[], [], trivial, trivial, rfl⟩
def Tm (o : Op) (T T2 : Nat → Option V) : Prop := ∀ t ∈ opTmps o, T2 t = T t
theorem evO {o : Op} {N : Nat} {σ : Sg} {T T2 : Nat → Option V} {a : Act} {x : Operand} {v : V} (h : opF T x v) (hm : x ∈ o.operands.toList) (ht : Tm o T T2) (hs : SL N σ T2 a) : CV σ v (a.eval x) :=
  (h.mono fun t hh => ht t (List.mem_flatMap.2 ⟨x, hm, hh⟩)).ev hs
theorem evOs {o : Op} {N : Nat} {σ : Sg} {T T2 : Nat → Option V} {a : Act} : ∀ {l : List Operand} {vs : List V}, opFs T l vs → (∀ x ∈ l, x ∈ o.operands.toList) → Tm o T T2 → SL N σ T2 a → VL σ vs (l.map a.eval)
  | [], [], _, _, _, _ => trivial
  | x :: l, v :: vs, ⟨h1, h2⟩, hm, ht, hs => ⟨evO h1 (hm x (by simp)) ht hs, evOs h2 (fun y hy => hm y (by simp [hy])) ht hs⟩
def DsOk (P : Program) : Ds → TypeDesc → Prop
  | .int k, d => d = .int k
  | .str, d => d = .string
  | .slice e, d => d = .slice e
  | .struct fs, d => ∃ F : Array Field, d = .struct F ∧ F.size = fs.length ∧ ∀ (i : Nat) (p : Nat × TypeId), fs[i]? = some p → ∃ f : Field, F[i]? = some f ∧ f.offset = p.1 ∧ f.type = p.2 ∧ ∃ i, P.info? f.type = some i ∧ i.size ≠ 0
  | .array n e, d => d = .array n e ∧ ∃ i, P.info? e = some i
  | .map k v, d => d = .map k v
  | .other, _ => True
structure TIok (P : Program) (t : TypeId) (ti : TI) : Prop where
  ok : ∃ d i z, P.underlying t = some d ∧ P.info? t = some i ∧ i.size = ti.sz ∧ i.bytes = ti.by_ ∧ i.zero = some z ∧ Agg d = ti.ag ∧ DsOk P ti.d d ∧ (∀ σ, CL σ ti.z z.cells.toList) ∧ ti.z.length = ti.sz ∧ (ti.ag = false → z.oneCell' = true) ∧ 0 < ti.sz
def upd (us : List (Nat × AO)) (h : Nat → Option AO) : Nat → Option AO := us.foldl (fun h p => set1 h p.1 p.2) h
/-- What an operation that calls no function does: whatever else lies there. -/
structure SSem (P : Program) (o : Op) (T : Nat → Option V) (h : Nat → Option AO) (n : Nat) (v : V) (rs : List Nat) (us : List (Nat × AO)) (n' : Nat) : Prop where
  le : n ≤ n'
  new : ∀ p ∈ us, p.1 ∈ rs ∨ (n ≤ p.1 ∧ p.1 < n')
  rd : ∀ b ∈ rs, ∃ o, h b = some o
  sem : ∀ (w0 : World) (Φ : Fz) (N : Nat) (σ : Sg) (T2 : Nat → Option V) (h2 : Nat → Option AO) (a : Act) (w : World), Tm o T T2 → (∀ b ∈ rs, h2 b = h b) →
    (∀ b, n ≤ b → b < n' → σ b = none) → SL N σ T2 a → HR w0 Φ σ h2 w →
    ∃ u w' σ', σ.le σ' ∧ (∀ b, (b < n ∨ n' ≤ b) → σ' b = σ b) ∧ CV σ' v u ∧ HR w0 Φ σ' (upd us h2) w' ∧
      ∀ o' : Oper, o'.op = o → (execOp a.eval o').run P w = .ok (.value u) w' ∨ ((execOp a.eval o').run P w = .ok .skip w' ∧ u = undef)
def Done {α : Type} (P : Program) (o : Op) (T : Nat → Option V) (h : Nat → Option AO) (n : Nat) (k : KO α) (r : α) : Prop := ∃ v rs us n', k v rs us n' = some r ∧ SSem P o T h n v rs us n'
section
variable {P : Program} {o : Op} {T : Nat → Option V} {h : Nat → Option AO} {n : Nat} {v : V}
theorem SSem.ofPure (H : ∀ (N : Nat) (σ : Sg) (T2 : Nat → Option V) (a : Act) (w : World), Tm o T T2 → SL N σ T2 a → ∃ u, CV σ v u ∧ ∀ o' : Oper, o'.op = o → (execOp a.eval o').run P w = .ok (.value u) w) : SSem P o T h n v [] [] n :=
  ⟨Nat.le_refl _, fun p hp => by simp at hp, fun b hb => by simp at hb, fun w0 Φ N σ T2 h2 a w h1 _ _ h5 h6 => by
    obtain ⟨u, hu, hr⟩ := H N σ T2 a w h1 h5
    exact ⟨u, w, σ, Sg.le.refl σ, fun _ _ => rfl, hu, h6, fun o' e => .inl (hr o' e)⟩⟩
theorem SSem.ofRead {b : Nat} {ob : AO} (hb : h b = some ob) (hd : ob ≠ .dead)
    (H : ∀ (N : Nat) (σ : Sg) (T2 : Nat → Option V) (a : Act) (w : World) (b' x : Nat), Tm o T T2 → SL N σ T2 a → σ b = some (b', x) → BR w σ b' x ob → ∃ u, CV σ v u ∧ ∀ o' : Oper, o'.op = o → (execOp a.eval o').run P w = .ok (.value u) w) : SSem P o T h n v [b] [] n :=
  ⟨Nat.le_refl _, fun p hp => by simp at hp, fun c hc => by simp at hc; subst hc; exact ⟨_, hb⟩, fun w0 Φ N σ T2 h2 a w h1 h3 _ h5 h6 => by
    obtain ⟨b', x, g1, g2, g3, g4⟩ := h6.live b ob ((h3 b (by simp)).trans hb) hd
    obtain ⟨u, hu, hr⟩ := H N σ T2 a w b' x h1 h5 g1 g4
    exact ⟨u, w, σ, Sg.le.refl σ, fun _ _ => rfl, hu, h6, fun o' e => .inl (hr o' e)⟩⟩
theorem SSem.ofNew {ao : AO} (H : ∀ (N : Nat) (σ : Sg) (T2 : Nat → Option V) (a : Act) (w : World), Tm o T T2 → SL N σ T2 a → σ n = none → ∃ u w' b x, Grew w w' none ∧ w.heap.size ≤ b ∧ b < w'.heap.size ∧ CV (sgSet σ n b x) v u ∧ BR w' (sgSet σ n b x) b x ao ∧
      ∀ o' : Oper, o'.op = o → (execOp a.eval o').run P w = .ok (.value u) w') : SSem P o T h n v [] [(n, ao)] (n + 1) :=
  ⟨Nat.le_succ _, fun p hp => by simp at hp; subst hp; exact .inr ⟨Nat.le_refl _, Nat.lt_succ_self _⟩, fun b hb => by simp at hb, fun w0 Φ N σ T2 h2 a w h1 _ h4 h5 h6 => by
    have hn := h4 n (Nat.le_refl _) (Nat.lt_succ_self _)
    obtain ⟨u, w', b, x, g1, g2, g3, g4, g5, hr⟩ := H N σ T2 a w h1 h5 hn
    exact ⟨u, w', sgSet σ n b x, sgSet_le hn, fun c hc => by
      unfold sgSet; rw [if_neg (by omega)], g4, h6.alloc hn g1 g2 g3 g5, fun o' e => .inl (hr o' e)⟩⟩
theorem SSem.ofWrite {b : Nat} {ob ao : AO} (hb : h b = some ob) (hd : ob ≠ .dead)
    (H : ∀ (N : Nat) (σ : Sg) (T2 : Nat → Option V) (a : Act) (w : World) (b' x : Nat), Tm o T T2 → SL N σ T2 a → σ b = some (b', x) → BR w σ b' x ob → b' < w.heap.size → ∃ u w', Grew w w' (some b') ∧ CV σ v u ∧ BR w' σ b' x ao ∧
      ∀ o' : Oper, o'.op = o → (execOp a.eval o').run P w = .ok (.value u) w' ∨ ((execOp a.eval o').run P w = .ok .skip w' ∧ u = undef)) : SSem P o T h n v [b] [(b, ao)] n :=
  ⟨Nat.le_refl _, fun p hp => by simp at hp; subst hp; exact .inl (by simp), fun c hc => by simp at hc; subst hc; exact ⟨_, hb⟩, fun w0 Φ N σ T2 h2 a w h1 h3 _ h5 h6 => by
    have hb2 := (h3 b (by simp)).trans hb
    obtain ⟨b', x, g1, g2, g3, g4⟩ := h6.live b ob hb2 hd
    obtain ⟨u, w', q1, q2, q3, hr⟩ := H N σ T2 a w b' x h1 h5 g1 g4 g3
    exact ⟨u, w', σ, Sg.le.refl σ, fun _ _ => rfl, q2, h6.write hb2 hd g1 q1 q3, hr⟩⟩
end
end Go.D
namespace Go.D
set_option linter.unusedVariables false
set_option linter.unusedSimpArgs false
open Go.RowKit Go.Sl
section
variable {α : Type} {P : Program} {E : Env} {m : Nat} {t : Tr V} {lc : Ls} {h : H} {n : Nat} {k : KO α} {r : α}
theorem opMove_ok {x : Operand} (e : opMove x E m t lc h n k = some r) : Done P (.move x) (opT m t lc) h.get n k r := by
  obtain ⟨v, hv, e⟩ := opd_inv e
  exact ⟨v, [], [], n, e, .ofPure fun N σ T2 a w ht hs => ⟨_, evO hv (by simp [Op.operands]) ht hs, fun o' q => by simp [execOp, q]⟩⟩
theorem opAssign_ok {x : Operand} (e : opMove x E m t lc h n k = some r) : Done P (.assign x) (opT m t lc) h.get n k r := by
  obtain ⟨v, hv, e⟩ := opd_inv e
  exact ⟨v, [], [], n, e, .ofPure fun N σ T2 a w ht hs => ⟨_, evO hv (by simp [Op.operands]) ht hs, fun o' q => by simp [execOp, q]⟩⟩
theorem opPick_ok {c x y : Operand} (e : opPick c x y E m t lc h n k = some r) : Done P (.pick c x y) (opT m t lc) h.get n k r := by
  obtain ⟨v, hv, e⟩ := opd_inv e
  obtain ⟨b, rfl, e⟩ := boolK_inv e
  obtain ⟨u, hu, e⟩ := opd_inv e
  refine ⟨u, [], [], n, e, .ofPure fun N σ T2 a w ht hs => ?_⟩
  have hc : a.eval c = .bool b := evO hv (by simp [Op.operands]) ht hs
  cases b with
  | true => exact ⟨_, evO (x := x) hu (by simp [Op.operands]) ht hs, fun o' q => by simp [execOp, q, asBool, hc]⟩
  | false => exact ⟨_, evO (x := y) hu (by simp [Op.operands]) ht hs, fun o' q => by simp [execOp, q, asBool, hc]⟩
theorem opNil_ok {x : Operand} (e : opNil x E m t lc h n k = some r) : Done P (.nilCheck x) (opT m t lc) h.get n k r := by
  obtain ⟨v, hv, e⟩ := opd_inv e
  obtain ⟨b, o, rfl, e⟩ := ptrK_inv e
  refine ⟨_, [], [], n, e, .ofPure fun N σ T2 a w ht hs => ?_⟩
  have hc := evO hv (by simp [Op.operands]) ht hs
  obtain ⟨b', y, h1, h2⟩ := hc
  exact ⟨_, ⟨b', y, h1, h2⟩, fun o' q => by simp [execOp, q, h2]⟩
variable (hE : ∀ t ti, E.tt.get t = some ti → TIok P t ti)
include hE
omit hE in
theorem fieldE_inv {α : Type} {d : Ds} {i : Nat} {K : Nat → TypeId → Option α} {r : α} (e : fieldE d i K = some r) : ∃ fs p, d = .struct fs ∧ fs[i]? = some p ∧ K p.1 p.2 = some r := by
  cases d <;> first | exact nn e | skip
  rename_i fs
  obtain ⟨p, h1, h2⟩ := nthK_inv _ _ _ _ (e : nthK fs i (fun p => Prod.rec K p) = some r)
  exact ⟨fs, p, rfl, h1, h2⟩
omit hE in
theorem sliceE_inv {α : Type} {d : Ds} {K : TypeId → Option α} {r : α} (e : sliceE d K = some r) : ∃ t, d = .slice t ∧ K t = some r := by
  cases d <;> first | exact nn e | exact ⟨_, rfl, e⟩
theorem elemK_inv {ty : TypeId} {K : TypeId → Nat → Nat → List C → Option α} {r : α} (e : elemK E ty K = some r) : ∃ e i z, P.underlying ty = some (.slice e) ∧ P.info? e = some i ∧ i.zero = some z ∧ 0 < i.size ∧ ∃ l : List C, (∀ σ, CL σ l z.cells.toList) ∧ l.length = i.size ∧ K e i.size i.bytes l = some r := by
  obtain ⟨ti, h1, e⟩ := oc_inv e
  obtain ⟨el, h2, e⟩ := sliceE_inv e
  obtain ⟨te, h3, e⟩ := oc_inv e
  obtain ⟨d, i, z, g1, g2, g3, g4, g5, g6, g7, g8, g9, g10⟩ := (hE _ _ h1).ok
  rw [h2] at g7
  have g7 : d = .slice el := g7
  subst g7
  obtain ⟨d', i', z', q1, q2, q3, q4, q5, q6, q7, q8, q9, q10, q11⟩ := (hE _ _ h3).ok
  exact ⟨el, i', z', g1, q2, q5, by omega, te.z, q8, by omega, by rw [q3, q4]; exact e⟩
theorem opFieldAddr_ok {ty : TypeId} {x : Operand} {i : Nat} (e : opFieldAddr ty x i E m t lc h n k = some r) : Done P (.fieldAddr ty x i) (opT m t lc) h.get n k r := by
  obtain ⟨v, hv, e⟩ := opd_inv e
  obtain ⟨b, o, rfl, e⟩ := ptrK_inv e
  obtain ⟨ti, h1, e⟩ := oc_inv e
  obtain ⟨fs, p, h2, h3, e⟩ := fieldE_inv e
  rw [fN_eq] at e
  refine ⟨_, [], [], n, e, .ofPure fun N σ T2 a w ht hs => ?_⟩
  obtain ⟨b', y, g1, g2⟩ := evO hv (by simp [Op.operands]) ht hs
  obtain ⟨d, it, z, q1, q2, q3, q4, q5, q6, q7, _⟩ := (hE _ _ h1).ok
  rw [h2] at q7
  obtain ⟨Fs, rfl, _, q7⟩ := q7
  obtain ⟨fd, c1, c2, c3, j, c4, c5⟩ := q7 i p h3
  exact ⟨.pointer (some ⟨b', o + p.1, none⟩), ⟨b', y, g1, rfl⟩, fun o' q => by simp [execOp, q, g2, Instr.fieldAt, run_underlying q1, c1, Instr.sureAddr, fieldPlace, sizeOf, typeInfo, c4, c5, c2, Sl.add_lit]⟩
theorem opIndexAddr_ok {ty : TypeId} {x ix : Operand} (e : opIndexAddr ty x ix E m t lc h n k = some r) : Done P (.indexAddr ty x ix) (opT m t lc) h.get n k r := by
  obtain ⟨v, hv, e⟩ := opd_inv e
  obtain ⟨w', hw, e⟩ := opd_inv e
  obtain ⟨kd, i, rfl, e⟩ := natK_inv e
  obtain ⟨ti, h1, e⟩ := oc_inv e
  obtain ⟨d, it, z, q1, q2, q3, q4, q5, q6, q7, _⟩ := (hE _ _ h1).ok
  revert e q7
  cases ti.d <;> intro e q7 <;> first | exact nn e | skip
  · rename_i el
    have q7 : d = .slice el := q7
    subst q7
    obtain ⟨te, h2, e⟩ := oc_inv (e : oc (E.tt.get el) _ = some r)
    obtain ⟨d', i', z', c1, c2, c3, _⟩ := (hE _ _ h2).ok
    rcases slK_inv e with ⟨_, e⟩ | ⟨b, o, l, c, rfl, e⟩
    · exact nn e
    obtain ⟨hlt, e⟩ := iff_inv e
    rw [fN_eq] at e
    have hlt := blt_iff hlt
    refine ⟨_, [], [], n, e, .ofPure fun N σ T2 a w ht hs => ?_⟩
    obtain ⟨b', y, g1, g2 | ⟨g2, _⟩⟩ := evO hv (by simp [Op.operands]) ht hs
    · have hi : a.eval ix = .int kd (i : Int) := evO hw (by simp [Op.operands]) ht hs
      exact ⟨.pointer (some ⟨b', o + i * te.sz, none⟩), ⟨b', y, g1, rfl⟩, fun o' q => by simp [execOp, q, g2, hi, Instr.indexAt, run_underlying q1, asIntOf, sizeOf, typeInfo, c2, c3, hlt, Sl.add_lit]⟩
    · omega
  · rename_i len el
    have q7 : d = .array len el := q7.1
    subst q7
    obtain ⟨te, h2, e⟩ := oc_inv (e : oc (E.tt.get el) _ = some r)
    obtain ⟨d', i', z', c1, c2, c3, _⟩ := (hE _ _ h2).ok
    obtain ⟨b, o, rfl, e⟩ := ptrK_inv e
    obtain ⟨hlt, e⟩ := iff_inv e
    rw [fN_eq] at e
    have hlt := blt_iff hlt
    refine ⟨_, [], [], n, e, .ofPure fun N σ T2 a w ht hs => ?_⟩
    obtain ⟨b', y, g1, g2⟩ := evO hv (by simp [Op.operands]) ht hs
    have hi : a.eval ix = .int kd (i : Int) := evO hw (by simp [Op.operands]) ht hs
    exact ⟨.pointer (some ⟨b', o + i * te.sz, none⟩), ⟨b', y, g1, rfl⟩, fun o' q => by simp [execOp, q, g2, hi, Instr.indexAt, run_underlying q1, asIntOf, Instr.sureAddr, sizeOf, typeInfo, c2, c3, hlt, Sl.add_lit]⟩
end
end Go.D
namespace Go.D
set_option linter.unusedVariables false
set_option linter.unusedSimpArgs false
open Go.RowKit Go.Sl
theorem BR.ofCells {w : World} {σ : Sg} {b x k len : Nat} {c : Tr (List C)} {e ty : TypeId} {ex : Bool} {cs : Array Value} {fr : Nat × Nat} (hb : w.heap[b]? = some (.cells cs ty fr)) (hf : fr = (0, 0) ∨ cs.size ≤ fr.1)
    (hsz : (len + x) * k ≤ cs.size) (hx : ex = true → x = 0) (hr : ∀ q row, q < len → c.get q = some row → row.length = k ∧ ∃ vs, CL σ row vs ∧ ∀ r v, vs[r]? = some v → cs[q * k + r]? = some v) : BR w σ b x (.cells k c len e ex) := by
  have hc : ∀ j, w.cell? ⟨b, j, none⟩ = cs[j]? := fun j => by simp [World.cell?, hb]
  refine ⟨hx, fun j hj => ⟨?_, ?_⟩, fun q row hq hrow => ?_⟩
  · rw [hc, Array.getElem?_eq_getElem (by omega)]; rfl
  · simp only [World.frozen?, hb]
    rcases hf with rfl | hf
    · simp
    · have : ¬ fr.1 ≤ j := by omega
      simp [this]
  · obtain ⟨h1, vs, h2, h3⟩ := hr q row hq hrow
    exact ⟨h1, vs, h2, fun r v hv => by rw [hc]; exact h3 r v hv⟩
theorem grew_drew (w : World) (o : Obj) : Grew w (w.drew.alloc o) none := ⟨rfl, rfl, rfl, by simp, fun k hk _ => heap_alloc_old w.drew o hk⟩
theorem Grew.setCells (b : Nat) : ∀ (vs : List Value) (o : Nat) (w : World), Grew w (w.setCells b o vs) (some b)
  | [], _, _ => ⟨rfl, rfl, rfl, Nat.le_refl _, fun _ _ _ => rfl⟩
  | v :: r, o, w => by
    have h1 := Grew.setCell w ⟨b, o, none⟩ v
    have h2 := Grew.setCells b r (o + 1) (w.setCell ⟨b, o, none⟩ v)
    refine ⟨h2.os.trans h1.os, h2.tape.trans h1.tape, h2.output.trans h1.output, Nat.le_trans h1.size h2.size, fun k hk hb => ?_⟩
    show ((w.setCell ⟨b, o, none⟩ v).setCells b (o + 1) r).heap[k]? = _
    rw [h2.block k (Nat.lt_of_lt_of_le hk h1.size) hb, h1.block k hk hb]
section
variable {α : Type}
theorem rdC_inv {k : Nat} {c : Tr (List C)} {len o n : Nat} {K : List C → Option α} {r : α} (e : rdC k c len o n K = some r) : ∃ row l, o / k < len ∧ c.get (o / k) = some row ∧ ((n = k ∧ o % k = 0 ∧ l = row) ∨ (o % k + n ≤ row.length ∧ l = (row.drop (o % k)).take n)) ∧ K l = some r := by
  obtain ⟨h1, e⟩ := iff_inv e
  obtain ⟨row, h2, e⟩ := oc_inv e
  refine ⟨row, ?_⟩
  have e : (Bool.rec (dropK (Nat.mod o k) row fun r => takeK n r K) (Bool.rec none (K row) (Nat.beq (Nat.mod o k) 0)) (Nat.beq n k) : Option α) = some r := e
  cases q : Nat.beq n k with
  | true =>
    rw [q] at e
    cases q2 : Nat.beq (Nat.mod o k) 0 with
    | true => rw [q2] at e; exact ⟨row, blt_iff h1, h2, .inl ⟨beq_iff' q, beq_iff' q2, rfl⟩, e⟩
    | false => rw [q2] at e; exact nn e
  | false =>
    rw [q] at e
    obtain ⟨h3, e⟩ := dropK_inv _ _ _ _ e
    obtain ⟨h4, e⟩ := takeK_inv _ _ _ _ e
    have h3 : o % k ≤ row.length := h3
    have h4 : n ≤ (row.drop (o % k)).length := h4
    rw [List.length_drop] at h4
    exact ⟨_, blt_iff h1, h2, .inr ⟨by omega, rfl⟩, e⟩
end
theorem BR.rd {w : World} {σ : Sg} {b x k len o n : Nat} {c : Tr (List C)} {e : TypeId} {ex : Bool} {row l : List C} (H : BR w σ b x (.cells k c len e ex)) (h1 : o / k < len) (h2 : c.get (o / k) = some row)
    (h3 : (n = k ∧ o % k = 0 ∧ l = row) ∨ (o % k + n ≤ row.length ∧ l = (row.drop (o % k)).take n)) : ∃ us, CL σ l us ∧ us.length = n ∧ ∀ j u, us[j]? = some u → w.cell? ⟨b, o + j, none⟩ = some u := by
  obtain ⟨_, _, H⟩ := H
  obtain ⟨g1, vs, g2, g3⟩ := H _ row h1 h2
  have hm : o / k * k + o % k = o := by rw [Nat.mul_comm]; exact Nat.div_add_mod o k
  rcases h3 with ⟨rfl, h4, rfl⟩ | ⟨h4, rfl⟩
  · refine ⟨vs, g2, by rw [g2.len, g1], fun j u hj => ?_⟩
    have := g3 j u hj
    rw [h4] at hm
    rw [show o / n * n = o by omega] at this
    exact this
  · refine ⟨(vs.drop (o % k)).take n, (g2.drop _).take _, ?_, fun j u hj => ?_⟩
    · have := g2.len
      simp; omega
    · rw [List.getElem?_take] at hj
      split at hj
      · rw [List.getElem?_drop] at hj
        have := g3 _ u hj
        rw [show o / k * k + (o % k + j) = o + j by omega] at this
        exact this
      · cases hj
theorem BR.wr {w : World} {σ : Sg} {b x k len o : Nat} {c c' : Tr (List C)} {e : TypeId} {ex : Bool} {row xs : List C} {us : List Value} (H : BR w σ b x (.cells k c len e ex)) (h1 : o / k < len) (h2 : c.get (o / k) = some row) (hk : 0 < k)
    (h3 : o % k + xs.length ≤ row.length) (hu : CL σ xs us) (hc : ∀ j, c'.get j = if j = o / k then some (row.take (o % k) ++ xs ++ row.drop (o % k + xs.length)) else c.get j) :
    (∀ j, j < us.length → (w.cell? ⟨b, o + j, none⟩).isSome = true ∧ w.frozen? ⟨b, o + j, none⟩ = false) ∧ BR (w.setCells b o us) σ b x (.cells k c' len e ex) := by
  obtain ⟨h0, hcells, hrows⟩ := H
  obtain ⟨g1, vs, g2, g3⟩ := hrows _ row h1 h2
  have hm : o / k * k + o % k = o := by rw [Nat.mul_comm]; exact Nat.div_add_mod o k
  have hul := hu.len
  have hvl := g2.len
  have hmod : o % k < k := Nat.mod_lt _ hk
  have hq : (o / k + 1) * k ≤ len * k := Nat.mul_le_mul_right _ h1
  have hq2 : (o / k + 1) * k = o / k * k + k := Nat.succ_mul _ _
  have hx : len * k ≤ (len + x) * k := Nat.mul_le_mul_right _ (Nat.le_add_right _ _)
  have hin : ∀ j, j < us.length → o + j < (len + x) * k := fun j hj => by omega
  refine ⟨fun j hj => hcells _ (hin j hj), h0, fun j hj => ⟨?_, ?_⟩, fun q row' hq' hr' => ?_⟩
  · by_cases hh : o ≤ j ∧ j < o + us.length
    · have := World.cell?_setCells_in b us o w (fun i hi => (hcells _ (hin i hi)).1) (j - o) (by omega)
      rw [show o + (j - o) = j by omega] at this
      rw [this]; rfl
    · rw [World.cell?_setCells_out b us o w ⟨b, j, none⟩ (fun _ _ => by simp only; omega)]
      exact (hcells j hj).1
  · rw [World.frozen?_setCells]; exact (hcells j hj).2
  · rw [hc] at hr'
    by_cases eq : q = o / k
    · rw [if_pos eq] at hr'
      cases hr'
      subst eq
      refine ⟨by simp; omega, vs.take (o % k) ++ us ++ vs.drop (o % k + xs.length), (((g2.take _).append hu).append (g2.drop _)), fun r v hv => ?_⟩
      have ht : (vs.take (o % k)).length = o % k := by simp; omega
      by_cases c1 : r < o % k
      · rw [List.append_assoc, List.getElem?_append_left (by omega), List.getElem?_take_of_lt c1] at hv
        rw [World.cell?_setCells_out b us o w _ (fun _ _ => by simp only; omega)]
        exact g3 r v hv
      · by_cases c2 : r < o % k + us.length
        · rw [List.append_assoc, List.getElem?_append_right (by omega), ht, List.getElem?_append_left (by omega)] at hv
          have := World.cell?_setCells_in b us o w (fun i hi => (hcells _ (hin i hi)).1) (r - o % k) (by omega)
          rw [show o / k * k + r = o + (r - o % k) by omega, this]
          rw [List.getElem?_eq_getElem (by omega)] at hv
          exact hv
        · rw [List.getElem?_append_right (by simp; omega)] at hv
          have hl2 : (vs.take (o % k) ++ us).length = o % k + us.length := by simp; omega
          rw [hl2, List.getElem?_drop, show o % k + xs.length + (r - (o % k + us.length)) = r by omega] at hv
          rw [World.cell?_setCells_out b us o w _ (fun _ _ => by simp only; omega)]
          exact g3 r v hv
    · rw [if_neg eq] at hr'
      obtain ⟨f1, ws, f2, f3⟩ := hrows q row' hq' hr'
      refine ⟨f1, ws, f2, fun r v hv => ?_⟩
      have hrl : r < k := by
        have := (List.getElem?_eq_some_iff.1 hv).1
        have := f2.len
        omega
      rw [World.cell?_setCells_out b us o w _ (fun _ _ => ?_)]
      · exact f3 r v hv
      · simp only
        rcases Nat.lt_or_ge q (o / k) with hlt | hge
        · left
          have : (q + 1) * k ≤ o / k * k := Nat.mul_le_mul_right _ hlt
          have : (q + 1) * k = q * k + k := Nat.succ_mul _ _
          omega
        · right
          have : (o / k + 1) * k ≤ q * k := Nat.mul_le_mul_right _ (by omega)
          omega
def RC (σ : Sg) (k : Nat) (l : List (List C)) (news : List Value) : Prop := news.length = l.length * k ∧ (∀ v ∈ news, v.oneCell' = true) ∧ ∀ q row, l[q]? = some row → row.length = k ∧ ∃ vs, CL σ row vs ∧ ∀ r v, vs[r]? = some v → news[q * k + r]? = some v
theorem RC.le {σ τ : Sg} {k : Nat} {l : List (List C)} {news : List Value} (h : RC σ k l news) (hl : σ.le τ) : RC τ k l news := ⟨h.1, h.2.1, fun q row hq => by
  obtain ⟨h1, vs, h2, h3⟩ := h.2.2 q row hq
  exact ⟨h1, vs, h2.le hl, h3⟩⟩
theorem BR.wrRows {w : World} {σ : Sg} {b x k len q0 : Nat} {c c' : Tr (List C)} {e : TypeId} {ex : Bool} {l : List (List C)} {us : List Value} (H : BR w σ b x (.cells k c len e ex)) (h1 : q0 + l.length ≤ len + x)
    (hu : RC σ k l us) {len' x' : Nat} {ex' : Bool} (hl : len' + x' = len + x) (hlen : len' ≤ len ∨ len' = q0 + l.length) (hge : q0 ≤ len) (hx : ex' = true → x' = 0) (hc : ∀ j, c'.get j = if q0 ≤ j ∧ j < q0 + l.length then l[j - q0]? else c.get j) :
    (∀ j, j < us.length → (w.cell? ⟨b, q0 * k + j, none⟩).isSome = true ∧ w.frozen? ⟨b, q0 * k + j, none⟩ = false) ∧ BR (w.setCells b (q0 * k) us) σ b x' (.cells k c' len' e ex') := by
  obtain ⟨h0, hcells, hrows⟩ := H
  obtain ⟨u1, u2, u3⟩ := hu
  have hin : ∀ j, j < us.length → q0 * k + j < (len + x) * k := fun j hj => by
    have : (q0 + l.length) * k ≤ (len + x) * k := Nat.mul_le_mul_right _ h1
    rw [Nat.add_mul] at this
    omega
  refine ⟨fun j hj => hcells _ (hin j hj), hx, fun j hj => ⟨?_, ?_⟩, fun q row' hq' hr' => ?_⟩
  · rw [hl] at hj
    by_cases hh : q0 * k ≤ j ∧ j < q0 * k + us.length
    · have := World.cell?_setCells_in b us (q0 * k) w (fun i hi => (hcells _ (hin i hi)).1) (j - q0 * k) (by omega)
      rw [show q0 * k + (j - q0 * k) = j by omega] at this
      rw [this]; rfl
    · rw [World.cell?_setCells_out b us _ w ⟨b, j, none⟩ (fun _ _ => by simp only; omega)]
      exact (hcells j hj).1
  · rw [hl] at hj
    rw [World.frozen?_setCells]; exact (hcells j hj).2
  · rw [hc] at hr'
    by_cases eq : q0 ≤ q ∧ q < q0 + l.length
    · rw [if_pos eq] at hr'
      obtain ⟨f1, ws, f2, f3⟩ := u3 _ _ hr'
      refine ⟨f1, ws, f2, fun r v hv => ?_⟩
      have hr := f3 r v hv
      have hlt := (List.getElem?_eq_some_iff.1 hr).1
      have := World.cell?_setCells_in b us (q0 * k) w (fun i hi => (hcells _ (hin i hi)).1) _ hlt
      rw [List.getElem?_eq_getElem hlt] at hr
      rw [← hr, ← this]
      congr 2
      rw [Nat.sub_mul]
      have : q0 * k ≤ q * k := Nat.mul_le_mul_right _ eq.1
      omega
    · rw [if_neg eq] at hr'
      obtain ⟨f1, ws, f2, f3⟩ := hrows q row' (by omega) hr'
      refine ⟨f1, ws, f2, fun r v hv => ?_⟩
      have hrl : r < k := by
        have := (List.getElem?_eq_some_iff.1 hv).1
        have := f2.len
        omega
      rw [World.cell?_setCells_out b us _ w _ (fun _ _ => ?_)]
      · exact f3 r v hv
      · simp only
        rcases Nat.lt_or_ge q q0 with hlt | hge
        · left
          have : (q + 1) * k ≤ q0 * k := Nat.mul_le_mul_right _ hlt
          have : (q + 1) * k = q * k + k := Nat.succ_mul _ _
          omega
        · right
          have : (q0 + l.length) * k ≤ q * k := Nat.mul_le_mul_right _ (by omega)
          rw [Nat.add_mul] at this
          omega
end Go.D
namespace Go.D
set_option linter.unusedVariables false
set_option linter.unusedSimpArgs false
open Go.RowKit Go.Sl
section
variable {α : Type} {P : Program} {E : Env} {m : Nat} {t : Tr V} {lc : Ls} {h : H} {n : Nat} {k : KO α} {r : α}
theorem mkV_inv {ag : Bool} {l : List C} {K : V → Option α} {r : α} (e : mkV ag l K = some r) : (ag = true ∧ K (.a l) = some r) ∨ (ag = false ∧ ∃ x r', l = x :: r' ∧ K (.c x) = some r) := by
  cases ag with
  | true => exact .inl ⟨rfl, e⟩
  | false =>
    cases l with
    | nil => exact nn e
    | cons x l => exact .inr ⟨rfl, x, l, rfl, e⟩
theorem opExtract_ok {x : Operand} {i : Nat} (e : opExtract x i E m t lc h n k = some r) : Done P (.extract x i) (opT m t lc) h.get n k r := by
  obtain ⟨v, hv, e⟩ := opd_inv e
  obtain ⟨l, rfl, e⟩ := tupK_inv e
  obtain ⟨u, hu, e⟩ := nthK_inv _ _ _ _ e
  have fin : ∀ v, (∀ σ q, CU σ u q → CV σ v q) → k v [] [] n = some r → Done P (.extract x i) (opT m t lc) h.get n k r := fun v hq e =>
    ⟨v, [], [], n, e, .ofPure fun N σ T2 a w ht hs => by
      obtain ⟨cs, h1, h2⟩ := evO hv (by simp [Op.operands]) ht hs
      obtain ⟨q, h3, h4⟩ := h2.get hu
      exact ⟨q, hq _ _ h4, fun o' q' => by simp [execOp, q', h1, Instr.extract, h3]⟩⟩
  cases u with
  | c x => exact fin (.c x) (fun σ q hq => hq) e
  | a l => exact fin (.a l) (fun σ q hq => hq) e
theorem arr_map {β γ : Type} (f : β → γ) (xs : Array β) : xs.map f = (xs.toList.map f).toArray := by
  apply Array.ext'
  simp
theorem opMakeFunc_ok {f : Fn} {fs cs : Array Operand} (e : opMakeFunc f fs cs E m t lc h n k = some r) : Done P (.makeFunc f fs cs) (opT m t lc) h.get n k r := by
  obtain ⟨vs, hv, e1⟩ := opdL_inv e
  obtain ⟨ps, rfl, e2⟩ := ptrs_inv _ _ _ e1
  obtain ⟨us, hu, e3⟩ := opdL_inv e2
  obtain ⟨qs, rfl, e4⟩ := ptrs_inv _ _ _ e3
  cases f <;> first | exact nn e4 | skip
  rename_i f
  refine ⟨_, [], [], n, e4, .ofPure fun N σ T2 a w ht hs => ?_⟩
  have h1 := (evOs hv (fun x hx => by simp [Op.operands, hx]) ht hs).pl
  have h2 := (evOs hu (fun x hx => by simp [Op.operands, hx]) ht hs).pl
  exact ⟨.func (.func f) (fs.map a.eval) (cs.map a.eval), ⟨_, _, h1, h2, by rw [arr_map, arr_map]⟩, fun o' q => by simp [execOp, q, Instr.makeFunc]⟩
theorem opMakeMap_ok {ty : TypeId} {x : Option Operand} (e : opMakeMap ty x E m t lc h n k = some r) : Done P (.makeMap ty x) (opT m t lc) h.get n k r := by
  cases x with
  | some x => exact nn e
  | none =>
    refine ⟨_, [], _, n + 1, e, .ofNew fun N σ T2 a w ht hs hn => ?_⟩
    refine ⟨.map (some w.heap.size), w.alloc (.map #[] 0), w.heap.size, 0, Grew.alloc w _ none, Nat.le_refl _, by simp, ⟨_, _, sgSet_at, rfl⟩, ⟨rfl, #[], 0, [], heap_alloc_new w _, rfl, trivial⟩, fun o' q => by simp [execOp, q, Instr.makeMap]⟩
theorem opRange_ok (hE : ∀ t ti, E.tt.get t = some ti → TIok P t ti) {ty : TypeId} {x : Operand} (e : opRange ty x E m t lc h n k = some r) : Done P (.range ty x) (opT m t lc) h.get n k r := by
  obtain ⟨v, hv, e⟩ := opd_inv e
  obtain ⟨ti, h1, e⟩ := oc_inv e
  obtain ⟨d, it, z, q1, q2, q3, q4, q5, q6, q7, _⟩ := (hE _ _ h1).ok
  revert e q7
  cases ti.d <;> intro e q7 <;> first | exact nn e | skip
  have q7 : d = .string := q7
  subst q7
  obtain ⟨s, rfl, e⟩ := strK_inv e
  refine ⟨_, [], _, n + 1, e, .ofNew fun N σ T2 a w ht hs hn => ?_⟩
  obtain ⟨b, g1, g2⟩ := evO hv (by simp [Op.operands]) ht hs
  exact ⟨.pointer (some ⟨w.heap.size, 0, none⟩), w.alloc (.stringIter b 0), w.heap.size, 0, Grew.alloc w _ none, Nat.le_refl _, by simp, ⟨_, _, sgSet_at, rfl⟩, ⟨rfl, b, heap_alloc_new w _, by simpa using g2⟩, fun o' q => by
    simp [execOp, q, g1, Instr.range, run_underlying q1]⟩
theorem wrap_small (k : IntKind) {m : Nat} (h : m < 128) : k.wrap (m : Int) = m := by
  cases k <;> simp [IntKind.wrap, IntKind.bits, IntKind.signed] <;> omega
theorem wrapK_eq (k : IntKind) (i : Int) (K : Int → Option α) : wrapK k i K = K (k.wrap i) := by
  cases i with
  | ofNat j =>
    have h0 : wrapK k (Int.ofNat j) K = fN j (fun m => Bool.rec (fI (k.wrap (.ofNat m)) K) (K (.ofNat m)) (Nat.blt m 128)) := rfl
    rw [h0, fN_eq]
    cases q : Nat.blt j 128 with
    | true =>
      show K (Int.ofNat j) = _
      rw [show Int.ofNat j = (j : Int) from rfl, wrap_small k (blt_iff q)]
    | false =>
      show fI (k.wrap (Int.ofNat j)) K = _
      rw [fI_eq]
  | negSucc j =>
    have h0 : wrapK k (Int.negSucc j) K = fI (k.wrap (.negSucc j)) K := rfl
    rw [h0, fI_eq]
theorem ltI_eq (a b : Int) : ltI a b = decide (a < b) := by
  have hb : ∀ x y : Nat, Nat.blt x y = decide (x < y) := fun x y => by
    cases q : Nat.blt x y with
    | true => exact (decide_eq_true (blt_iff q)).symm
    | false => exact (decide_eq_false (fun hlt => by have := ble_not (m := x + 1) (n := y) q; omega)).symm
  cases a <;> cases b
  · rename_i a b
    show Nat.blt a b = _
    rw [hb]
    by_cases q : a < b
    · rw [decide_eq_true q, decide_eq_true (by show (a : Int) < (b : Int); omega)]
    · rw [decide_eq_false q, decide_eq_false (by show ¬ (a : Int) < (b : Int); omega)]
  · rename_i a b
    exact (decide_eq_false (by show ¬ (a : Int) < Int.negSucc b; omega)).symm
  · rename_i a b
    exact (decide_eq_true (by show Int.negSucc a < (b : Int); omega)).symm
  · rename_i a b
    show Nat.blt b a = _
    rw [hb]
    by_cases q : b < a
    · rw [decide_eq_true q, decide_eq_true (by omega)]
    · rw [decide_eq_false q, decide_eq_false (by omega)]
theorem eqI_eq (a b : Int) : eqI a b = decide (a = b) := by
  have hb : ∀ x y : Nat, Nat.beq x y = decide (x = y) := fun x y => by
    cases q : Nat.beq x y with
    | true => exact (decide_eq_true (beq_iff' q)).symm
    | false => exact (decide_eq_false (beq_not q)).symm
  cases a <;> cases b
  · rename_i a b
    show Nat.beq a b = _
    rw [hb]
    by_cases q : a = b
    · rw [decide_eq_true q, decide_eq_true (by rw [q])]
    · rw [decide_eq_false q, decide_eq_false (fun e => q (Int.ofNat.inj e))]
  · rename_i a b
    exact (decide_eq_false (fun e => by cases e)).symm
  · rename_i a b
    exact (decide_eq_false (fun e => by cases e)).symm
  · rename_i a b
    show Nat.beq a b = _
    rw [hb]
    by_cases q : a = b
    · rw [decide_eq_true q, decide_eq_true (by rw [q])]
    · rw [decide_eq_false q, decide_eq_false (fun e => q (Int.negSucc.inj e))]
theorem rec_t {β : Type} {x y : Option β} {b : Bool} {r : β} (e : (Bool.rec x y b : Option β) = some r) : (b = true ∧ y = some r) ∨ (b = false ∧ x = some r) := by
  cases b with
  | true => exact .inl ⟨rfl, e⟩
  | false => exact .inr ⟨rfl, e⟩
theorem intOp_inv {o : BinOp} {kd : IntKind} {a b : Int} {K : C → Option α} {r : α} (e : intOp o kd a b K = some r) : ∃ c, K c = some r ∧ ∀ (P : Program) (ty : TypeId) (x y : Operand) (w : World) (σ : Sg), ∃ u, CC σ c u ∧
    (do eqGuard o ty x y (.int kd a) (.int kd b); binOp o ty (.int kd a) (.int kd b)).run P w = .ok u w := by
  unfold intOp at e
  split at e
  · rw [wrapK_eq] at e
    exact ⟨_, e, fun P ty x y w σ => ⟨_, rfl, by simp [eqGuard, binOp, Op.intArith]⟩⟩
  · rw [wrapK_eq] at e
    exact ⟨_, e, fun P ty x y w σ => ⟨_, rfl, by simp [eqGuard, binOp, Op.intArith]; rfl⟩⟩
  · rw [wrapK_eq] at e
    exact ⟨_, e, fun P ty x y w σ => ⟨_, rfl, by simp [eqGuard, binOp, Op.intArith]⟩⟩
  · rcases rec_t e with ⟨q, e⟩ | ⟨q, e⟩
    · exact nn e
    · rw [wrapK_eq] at e
      rw [eqI_eq] at q
      have q := of_decide_eq_false q
      exact ⟨_, e, fun P ty x y w σ => ⟨_, rfl, by simp [eqGuard, binOp, Op.intDiv, q]⟩⟩
  · rcases rec_t e with ⟨q, e⟩ | ⟨q, e⟩
    · exact nn e
    · rw [fI_eq] at e
      rw [eqI_eq] at q
      have q := of_decide_eq_false q
      exact ⟨_, e, fun P ty x y w σ => ⟨_, rfl, by simp [eqGuard, binOp, Op.intDiv, q]⟩⟩
  · rw [fB_eq, ltI_eq] at e
    exact ⟨_, e, fun P ty x y w σ => ⟨_, rfl, by simp [eqGuard, binOp, Op.intCmp]⟩⟩
  · rw [fB_eq, ltI_eq] at e
    exact ⟨_, e, fun P ty x y w σ => ⟨_, rfl, by simp [eqGuard, binOp, Op.intCmp, ← decide_not]⟩⟩
  · rw [fB_eq, ltI_eq] at e
    exact ⟨_, e, fun P ty x y w σ => ⟨_, rfl, by simp [eqGuard, binOp, Op.intCmp]⟩⟩
  · rw [fB_eq, ltI_eq] at e
    exact ⟨_, e, fun P ty x y w σ => ⟨_, rfl, by simp [eqGuard, binOp, Op.intCmp, ← decide_not]⟩⟩
  · rw [fB_eq, eqI_eq] at e
    exact ⟨_, e, fun P ty x y w σ => ⟨_, rfl, by simp [eqGuard, binOp, Op.intCmp]; rfl⟩⟩
  · rw [fB_eq, eqI_eq] at e
    exact ⟨_, e, fun P ty x y w σ => ⟨_, rfl, by simp [eqGuard, binOp, Op.intCmp, bne]; rfl⟩⟩
  · exact nn e
end
end Go.D
namespace Go.D
set_option linter.unusedVariables false
set_option linter.unusedSimpArgs false
open Go.RowKit Go.Sl
section
variable {α : Type} {P : Program} {E : Env} {m : Nat} {t : Tr V} {lc : Ls} {h : H} {n : Nat} {k : KO α} {r : α}
theorem beqL_eq : ∀ a b : List Nat, beqL a b = decide (a = b)
  | [], [] => by simp [beqL]
  | [], _ :: _ => by simp [beqL]
  | _ :: _, [] => by simp [beqL]
  | x :: a, y :: b => by
    show (Bool.rec false (beqL a b) (Nat.beq x y) : Bool) = _
    cases q : Nat.beq x y with
    | true =>
      have := beq_iff' q
      subst this
      show beqL a b = _
      rw [beqL_eq a b]
      simp
    | false =>
      have := beq_not q
      show false = _
      simp [this]
theorem byl_inj {s u : ByteArray} (h : byl s = byl u) : s = u := by
  have h : s.data.toList = u.data.toList := by
    unfold byl at h
    exact List.map_inj_right (fun x y e => UInt8.toNat_inj.1 e) |>.1 h
  cases s with | mk a => cases u with | mk b => cases a; cases b; simp at h; subst h; rfl
theorem byl_len (s : ByteArray) : (byl s).length = s.size := by
  unfold byl
  rw [List.length_map, Array.length_toList]
  rfl
theorem byl_append (s u : ByteArray) : byl (s ++ u) = byl s ++ byl u := by
  unfold byl
  rw [← List.map_append]
  congr 1
theorem strOp_inv {o : BinOp} {a b : List Nat} {K : C → Option α} {r : α} (e : strOp o a b K = some r) : ∃ c, K c = some r ∧ ∀ (P : Program) (ty : TypeId) (x y : Operand) (w : World) (σ : Sg) (s u : ByteArray), byl s = a → byl u = b → ∃ v, CC σ c v ∧
    (do eqGuard o ty x y (.string s) (.string u); binOp o ty (.string s) (.string u)).run P w = .ok v w := by
  unfold strOp at e
  split at e
  · rw [lenN_eq, lenN_eq] at e
    obtain ⟨h1, e⟩ := iff_inv e
    rw [appN_eq] at e
    have h1 := ble_iff h1
    refine ⟨_, e, fun P ty x y w σ s u hs hu => ⟨.string (s ++ u), ⟨_, rfl, by rw [byl_append, hs, hu]⟩, ?_⟩⟩
    rw [← hs, ← hu, byl_len, byl_len] at h1
    have hz : s.size + u.size ≤ 65536 := h1
    have hl : ¬ (((s.size + u.size : Nat) : Int) > IntKind.i64.max) := by
      have : IntKind.i64.max = 9223372036854775807 := rfl
      omega
    have hrun : (Op.stringOp .add s u).run P w = .ok (.string (s ++ u)) w := by
      unfold Op.stringOp
      simp only [if_neg hl]
      rfl
    simp [eqGuard, binOp, hrun]
  · rw [fB_eq, beqL_eq] at e
    refine ⟨_, e, fun P ty x y w σ s u hs hu => ⟨_, rfl, ?_⟩⟩
    have : (s.toList == u.toList) = decide (a = b) := by
      rw [← hs, ← hu]
      by_cases q : s = u
      · subst q; simp
      · have : byl s ≠ byl u := fun e => q (byl_inj e)
        have h2 : s.toList ≠ u.toList := fun e => this (by
          unfold byl
          rw [ByteArray.toList_eq, ByteArray.toList_eq] at e
          rw [e])
        simp [this, h2]
    simp [eqGuard, binOp, Op.stringOp, this]
  · rw [fB_eq, beqL_eq] at e
    refine ⟨_, e, fun P ty x y w σ s u hs hu => ⟨_, rfl, ?_⟩⟩
    have : (s.toList == u.toList) = decide (a = b) := by
      rw [← hs, ← hu]
      by_cases q : s = u
      · subst q; simp
      · have : byl s ≠ byl u := fun e => q (byl_inj e)
        have h2 : s.toList ≠ u.toList := fun e => this (by
          unfold byl
          rw [ByteArray.toList_eq, ByteArray.toList_eq] at e
          rw [e])
        simp [this, h2]
    simp [eqGuard, binOp, Op.stringOp, this]
  · exact nn e
end
end Go.D
namespace Go.D
set_option linter.unusedVariables false
set_option linter.unusedSimpArgs false
open Go.RowKit Go.Sl
section
variable {α : Type} {P : Program} {E : Env} {m : Nat} {t : Tr V} {lc : Ls} {h : H} {n : Nat} {k : KO α} {r : α}
variable (hE : ∀ t ti, E.tt.get t = some ti → TIok P t ti)
theorem boolOp_inv {o : BinOp} {b : Bool} {K : C → Option α} {r : α} (e : boolOp o b K = some r) : (o = .eql ∧ K (.b b) = some r) ∨ (o = .neq ∧ K (.b (!b)) = some r) := by
  unfold boolOp at e
  split at e
  · exact .inl ⟨rfl, e⟩
  · exact .inr ⟨rfl, e⟩
  · exact nn e
theorem slEq {ty el : TypeId} {ao bo : Option Addr} {l c l' c' : Nat} {w : World} (hu : P.underlying ty = some (.slice el)) (hn : ao = none ∨ bo = none) (x y : Operand) {o : BinOp} (ho : o = .eql ∨ o = .neq) :
    (do eqGuard o ty x y (.slice ao l c) (.slice bo l' c'); binOp o ty (.slice ao l c) (.slice bo l' c')).run P w = .ok (.bool (if o = .eql then (ao.isNone && bo.isNone) else !(ao.isNone && bo.isNone))) w := by
  have h : (Op.equal ty (.slice ao l c) (.slice bo l' c')).run P w = .ok (ao.isNone && bo.isNone) w := by
    unfold Op.equal
    refine equal_deep (fun d => ?_) rfl
    rcases hn with rfl | rfl
    · simp [Op.equalIn, run_underlying hu]
    · cases ao <;> simp [Op.equalIn, run_underlying hu]
  rcases ho with rfl | rfl <;> simp [eqGuard, binOp, h]
include hE in
theorem opBin_ok {o : BinOp} {ty ty' : TypeId} {x y : Operand} (e : opBin o ty x y ty' E m t lc h n k = some r) : Done P (.binOp o ty x y ty') (opT m t lc) h.get n k r := by
  obtain ⟨va, hva, e⟩ := opd_inv e
  obtain ⟨vb, hvb, e⟩ := opd_inv e
  obtain ⟨a', rfl, e1⟩ := cK_inv e
  obtain ⟨b', rfl, e2⟩ := cK_inv e1
  clear e e1
  have e := e2
  clear e2
  have fin : ∀ c, k (.c c) [] [] n = some r → (∀ (w : World) (σ : Sg) u v, CC σ a' u → CC σ b' v → ∃ q, CC σ c q ∧ (do eqGuard o ty x y u v; binOp o ty u v).run P w = .ok q w) → Done P (.binOp o ty x y ty') (opT m t lc) h.get n k r := fun c e H =>
    ⟨_, [], [], n, e, .ofPure fun N σ T2 a w ht hs => by
      have h1 := evO hva (by simp [Op.operands]) ht hs
      have h2 := evO hvb (by simp [Op.operands]) ht hs
      obtain ⟨q, h3, h4⟩ := H w σ _ _ h1 h2
      refine ⟨q, h3, fun o' q' => ?_⟩
      simp only [execOp, q']
      rw [Sem.run_bind, h4]
      rfl⟩
  have slc : ∀ K : Option α, (oc (E.tt.get ty) fun ti => sliceE ti.d fun _ => K) = some r → (∃ el, P.underlying ty = some (.slice el)) ∧ K = some r := fun K e => by
    obtain ⟨ti, h1, e⟩ := oc_inv e
    obtain ⟨el, h2, e⟩ := sliceE_inv e
    obtain ⟨d, it, z, q1, q2, q3, q4, q5, q6, q7, _⟩ := (hE _ _ h1).ok
    rw [h2] at q7
    have q7 : d = .slice el := q7
    subst q7
    exact ⟨⟨el, q1⟩, e⟩
  cases a' with
  | b _ => exact nn e
  | pn => exact nn e
  | p _ _ => exact nn e
  | mn => exact nn e
  | m _ => exact nn e
  | nf => exact nn e
  | fn _ _ _ => exact nn e
  | i kd i =>
    obtain ⟨kd', j, hb, e1⟩ := intK_inv (e : intK (.c b') (fun k' b => iff (decide (kd = k')) (intOp o kd i b fun v => k (.c v) [] [] n)) = some r)
    cases hb
    obtain ⟨hk, e2⟩ := iff_inv e1
    have hk := of_decide_eq_true hk
    subst hk
    obtain ⟨c, e3, H⟩ := intOp_inv e2
    exact fin c e3 fun w σ u v hu hv => by
      have hu : u = .int kd i := hu
      have hv : v = .int kd j := hv
      subst hu hv
      exact H P ty x y w σ
  | s s =>
    obtain ⟨s', hb, e1⟩ := strK_inv (e : strK (.c b') (fun b => strOp o s b fun v => k (.c v) [] [] n) = some r)
    cases hb
    obtain ⟨c, e3, H⟩ := strOp_inv e1
    exact fin c e3 fun w σ u v ⟨s1, hu, hu2⟩ ⟨s2, hv, hv2⟩ => by
      subst hu hv
      exact H P ty x y w σ s1 s2 hu2 hv2
  | sn =>
    obtain ⟨⟨el, q1⟩, e1⟩ := slc _ e
    cases b' <;> first | exact nn e1 | skip
    · have e1 : boolOp o true (fun v => k (.c v) [] [] n) = some r := e1
      rcases boolOp_inv e1 with ⟨rfl, e2⟩ | ⟨rfl, e2⟩
      · exact fin _ e2 fun w σ u v hu hv => ⟨_, rfl, by
          have hu : u = .slice none 0 0 := hu
          have hv : v = .slice none 0 0 := hv
          subst hu hv
          rw [slEq q1 (.inl rfl) x y (.inl rfl)]; rfl⟩
      · exact fin _ e2 fun w σ u v hu hv => ⟨_, rfl, by
          have hu : u = .slice none 0 0 := hu
          have hv : v = .slice none 0 0 := hv
          subst hu hv
          rw [slEq q1 (.inl rfl) x y (.inr rfl)]; rfl⟩
    · have e1 : boolOp o false (fun v => k (.c v) [] [] n) = some r := e1
      rcases boolOp_inv e1 with ⟨rfl, e2⟩ | ⟨rfl, e2⟩
      · exact fin _ e2 fun w σ u v hu hv => ⟨_, rfl, by
          have hu : u = .slice none 0 0 := hu
          obtain ⟨_, _, _, rfl | ⟨_, _, _, rfl⟩⟩ := hv <;> subst hu <;> (rw [slEq q1 (.inl rfl) x y (.inl rfl)]; rfl)⟩
      · exact fin _ e2 fun w σ u v hu hv => ⟨_, rfl, by
          have hu : u = .slice none 0 0 := hu
          obtain ⟨_, _, _, rfl | ⟨_, _, _, rfl⟩⟩ := hv <;> subst hu <;> (rw [slEq q1 (.inl rfl) x y (.inr rfl)]; rfl)⟩
  | sl _ _ _ _ =>
    obtain ⟨⟨el, q1⟩, e1⟩ := slc _ e
    cases b' <;> first | exact nn e1 | skip
    have e1 : boolOp o false (fun v => k (.c v) [] [] n) = some r := e1
    rcases boolOp_inv e1 with ⟨rfl, e2⟩ | ⟨rfl, e2⟩
    · exact fin _ e2 fun w σ u v hu hv => ⟨_, rfl, by
        have hv : v = .slice none 0 0 := hv
        obtain ⟨_, _, _, rfl | ⟨_, _, _, rfl⟩⟩ := hu <;> subst hv <;> (rw [slEq q1 (.inr rfl) x y (.inl rfl)]; rfl)⟩
    · exact fin _ e2 fun w σ u v hu hv => ⟨_, rfl, by
        have hv : v = .slice none 0 0 := hv
        obtain ⟨_, _, _, rfl | ⟨_, _, _, rfl⟩⟩ := hu <;> subst hv <;> (rw [slEq q1 (.inr rfl) x y (.inr rfl)]; rfl)⟩
theorem opUn_ok {o : UnOp} {ty : TypeId} {x : Operand} (e : opUn o ty x E m t lc h n k = some r) : Done P (.unOp o ty x) (opT m t lc) h.get n k r := by
  obtain ⟨va, hva, e⟩ := opd_inv e
  revert e
  cases o <;> intro e <;> first | exact nn e | skip
  all_goals first
    | (obtain ⟨b, rfl, e⟩ := boolK_inv e
       exact ⟨_, [], [], n, e, .ofPure fun N σ T2 a w ht hs => by
         have h1 : a.eval x = .bool b := evO hva (by simp [Op.operands]) ht hs
         exact ⟨_, rfl, fun o' q' => by simp [execOp, q', h1, Op.unary]⟩⟩)
    | (obtain ⟨kd, i, rfl, e1⟩ := intK_inv e
       rw [wrapK_eq] at e1
       exact ⟨_, [], [], n, e1, .ofPure fun N σ T2 a w ht hs => by
         have h1 : a.eval x = .int kd i := evO hva (by simp [Op.operands]) ht hs
         exact ⟨_, rfl, fun o' q' => by simp [execOp, q', h1, Op.unary, Op.intArith, show Int.sub 0 i = -i from Int.zero_sub i]⟩⟩)
include hE in
theorem opAlloc_ok {ty : TypeId} (e : opAlloc ty E m t lc h n k = some r) : Done P (.alloc ty) (opT m t lc) h.get n k r := by
  obtain ⟨ti, h1, e⟩ := oc_inv e
  obtain ⟨d, it, z, q1, q2, q3, q4, q5, q6, q7, q8, q9, q10, q11⟩ := (hE _ _ h1).ok
  refine ⟨_, [], _, n + 1, e, .ofNew fun N σ T2 a w ht hs hn => ?_⟩
  have hz := (q8 (sgSet σ n w.heap.size 0)).len
  refine ⟨.pointer (some ⟨w.heap.size, 0, none⟩), w.alloc (.cells z.cells ty), w.heap.size, 0, Grew.alloc w _ none, Nat.le_refl _, by simp, ⟨_, _, sgSet_at, rfl⟩,
    BR.ofCells (heap_alloc_new w _) (.inl rfl) (by simp at hz ⊢; omega) (fun _ => rfl) (fun q row hq hr => ?_), fun o' q => by simp [execOp, q, Instr.alloc, zeroValue, typeInfo, q2, q5, newVar, newRow]⟩
  obtain rfl : q = 0 := by omega
  cases hr
  exact ⟨q9, z.cells.toList, q8 _, fun r v hv => by simpa using hv⟩
theorem opBox_ok {ty : TypeId} {x : Operand} (e : opBox ty x E m t lc h n k = some r) : Done P (.box ty x) (opT m t lc) h.get n k r := by
  obtain ⟨v, hv, e⟩ := opd_inv e
  obtain ⟨ti, h1, e⟩ := oc_inv e
  obtain ⟨xs, hx, e⟩ := vcells_inv e
  rw [lenN_eq] at e
  obtain ⟨hl, e⟩ := iff_inv e
  have hl := beq_iff' hl
  refine ⟨_, [], _, n + 1, e, .ofNew fun N σ T2 a w ht hs hn => ?_⟩
  have hu := (evO hv (by simp [Op.operands]) ht hs).cells hx
  have hz := hu.len
  refine ⟨.pointer (some ⟨w.heap.size, 0, none⟩), w.alloc (.cells (a.eval x).cells ty), w.heap.size, 0, Grew.alloc w _ none, Nat.le_refl _, by simp, ⟨_, _, sgSet_at, rfl⟩,
    BR.ofCells (heap_alloc_new w _) (.inl rfl) (by simp at hz ⊢; omega) (fun _ => rfl) (fun q row hq hr => ?_), fun o' q => by simp [execOp, q, Instr.box, newVar, newRow]⟩
  obtain rfl : q = 0 := by omega
  cases hr
  exact ⟨hl, _, hu.le (sgSet_le hn), fun r v hv => by simpa using hv⟩
include hE in
theorem opLoad_ok {ty : TypeId} {x : Operand} (e : opLoad ty x E m t lc h n k = some r) : Done P (.load ty x) (opT m t lc) h.get n k r := by
  obtain ⟨v, hv, e⟩ := opd_inv e
  obtain ⟨b, o, rfl, e⟩ := ptrK_inv e
  obtain ⟨ti, h1, e⟩ := oc_inv e
  obtain ⟨d, it, z, q1, q2, q3, q4, q5, q6, q7, q8, q9, q10, q11⟩ := (hE _ _ h1).ok
  obtain ⟨ob, h2, e⟩ := oc_inv (e : oc (h.get b) _ = some r)
  obtain ⟨kk, c, len, el, ex, rfl, e⟩ := cellsK_inv e
  obtain ⟨row, l, h3, h4, h5, e⟩ := rdC_inv e
  rcases mkV_inv e with ⟨hag, e⟩ | ⟨hag, y, r', hl, e⟩
  · refine ⟨_, _, _, n, e, .ofRead h2 (by simp) fun N σ T2 a w b' x' ht hs hb hB => ?_⟩
    obtain ⟨b2, x2, g1, g2⟩ := evO hv (by simp [Op.operands]) ht hs
    rw [hb] at g1; cases g1
    obtain ⟨us, c1, c2, c3⟩ := hB.rd h3 h4 h5
    have hl := run_loadCells_list (P := P) w ⟨b', o, none⟩ us (fun j u hj => by rw [Sl.add_lit]; exact c3 j u hj)
    rw [c2, ← q3] at hl
    refine ⟨.agg us.toArray, ⟨us, rfl, c1⟩, fun o' q => ?_⟩
    rw [hag] at q6
    cases d <;> first | (simp [Agg] at q6; done) | simp [execOp, q, g2, Instr.loadAt, Instr.sureAddr, loadVar, isAgg, run_underlying q1, sizeOf, typeInfo, q2, hl]
  · refine ⟨_, _, _, n, e, .ofRead h2 (by simp) fun N σ T2 a w b' x' ht hs hb hB => ?_⟩
    obtain ⟨b2, x2, g1, g2⟩ := evO hv (by simp [Op.operands]) ht hs
    rw [hb] at g1; cases g1
    obtain ⟨us, c1, c2, c3⟩ := hB.rd h3 h4 h5
    subst hl
    cases us with
    | nil => exact c1.elim
    | cons u us =>
      have hc : w.cell? ⟨b', o, none⟩ = some u := c3 0 u rfl
      refine ⟨u, c1.1, fun o' q => ?_⟩
      rw [hag] at q6
      cases d <;> first | (simp [Agg] at q6; done) | simp [execOp, q, g2, Instr.loadAt, Instr.sureAddr, loadVar, isAgg, run_underlying q1, hc]
include hE in
theorem opStore_ok {ty : TypeId} {x y : Operand} (e : opStore ty x y E m t lc h n k = some r) : Done P (.store ty x y) (opT m t lc) h.get n k r := by
  obtain ⟨v, hv, e⟩ := opd_inv e
  obtain ⟨b, o, rfl, e⟩ := ptrK_inv e
  obtain ⟨v2, hv2, e⟩ := opd_inv e
  obtain ⟨ti, h1, e⟩ := oc_inv e
  obtain ⟨d, it, z, q1, q2, q3, q4, q5, q6, q7, q8, q9, q10, q11⟩ := (hE _ _ h1).ok
  obtain ⟨xs, hx, e⟩ := vcells_inv e
  obtain ⟨ob, h2, e⟩ := oc_inv e
  obtain ⟨kk, c, len, el, ex, rfl, e1⟩ := cellsK_inv e
  clear e
  have e := e1
  clear e1
  rw [lenN_eq] at e
  obtain ⟨hl, e⟩ := iff_inv e
  have hl := beq_iff' hl
  obtain ⟨h3, e⟩ := iff_inv e
  have h3 := blt_iff h3
  obtain ⟨row, h4, e⟩ := oc_inv e
  obtain ⟨h5, e⟩ := layK_inv _ _ _ _ _ e
  obtain ⟨c', h6, e⟩ := Tr.putK_inv e
  refine ⟨_, _, _, n, e, .ofWrite h2 (by simp) fun N σ T2 a w b' x' ht hs hb hB hlt => ?_⟩
  obtain ⟨b2, x2, g1, g2⟩ := evO hv (by simp [Op.operands]) ht hs
  rw [hb] at g1; cases g1
  have hu := (evO hv2 (by simp [Op.operands]) ht hs).cells hx
  have hz := hu.len
  have hk : 0 < kk := by
    obtain ⟨_, _, hr⟩ := hB
    have := (hr _ row h3 h4).1
    have h5 : o % kk + xs.length ≤ row.length := h5
    omega
  obtain ⟨f1, f2⟩ := hB.wr h3 h4 hk h5 hu h6
  refine ⟨undef, w.setCells b' o (a.eval y).cells.toList, Grew.setCells _ _ _ _, CV_undef, f2, fun o' q => .inr ⟨?_, rfl⟩⟩
  have hst := run_storeCells_cells (P := P) b' o (a.eval y).cells.toList 0 w (by simpa using fun j hj => (f1 j (by simpa using hj)).1) (by simpa using fun j hj => (f1 j (by simpa using hj)).2) hu.one
  simp only [Nat.add_zero] at hst
  have hsz : (a.eval y).cells.size = it.size := by simp at hz; omega
  simp [execOp, q, g2, Instr.storeAt, Instr.sureAddr, storeVar, sizeOf, typeInfo, q2, hsz, hst]
end
end Go.D
namespace Go.D
set_option linter.unusedVariables false
set_option linter.unusedSimpArgs false
open Go.RowKit Go.Sl
section
variable {α : Type} {P : Program} {E : Env} {m : Nat} {t : Tr V} {lc : Ls} {h : H} {n : Nat} {k : KO α} {r : α}
variable (hE : ∀ t ti, E.tt.get t = some ti → TIok P t ti)
theorem run_part {tf : TypeId} {tj : TI} (ht : TIok P tf tj) {cs : List C} {vs : List Value} {off : Nat} {v : V} {σ : Sg} {w : World} (hc : CL σ cs vs) (_h1 : off + tj.sz ≤ cs.length)
    (hv : (tj.ag = true ∧ v = .a ((cs.drop off).take tj.sz)) ∨ (tj.ag = false ∧ ∃ x r', (cs.drop off).take tj.sz = x :: r' ∧ v = .c x)) : ∃ u, CV σ v u ∧ (part tf vs.toArray off).run P w = .ok u w := by
  obtain ⟨d, i, z, q1, q2, q3, q4, q5, q6, q7, q8, q9, q10, q11⟩ := ht.ok
  have hl := hc.len
  have hd := (hc.drop off).take tj.sz
  rcases hv with ⟨hag, rfl⟩ | ⟨hag, x, r', hx, rfl⟩
  · refine ⟨.agg ((vs.drop off).take tj.sz).toArray, ⟨_, rfl, hd⟩, ?_⟩
    rw [hag] at q6
    cases d <;> first | (simp [Agg] at q6; done) | simp [part, isAgg, run_underlying q1, sizeOf, typeInfo, q2, q3]
  · rw [hx] at hd
    cases q : (vs.drop off).take tj.sz with
    | nil => rw [q] at hd; exact hd.elim
    | cons u us =>
      rw [q] at hd
      refine ⟨u, hd.1, ?_⟩
      have hu : vs[off]? = some u := by
        have h2 : ((vs.drop off).take tj.sz)[0]? = some u := by rw [q]; rfl
        rw [List.getElem?_take_of_lt q11, List.getElem?_drop] at h2
        simpa using h2
      rw [hag] at q6
      cases d <;> first | (simp [Agg] at q6; done) | simp [part, isAgg, run_underlying q1, hu]
theorem mkV_inv2 {ag : Bool} {l : List C} {K : V → Option α} {r : α} (e : mkV ag l K = some r) : ∃ v, K v = some r ∧ ((ag = true ∧ v = .a l) ∨ (ag = false ∧ ∃ x r', l = x :: r' ∧ v = .c x)) := by
  rcases mkV_inv e with ⟨h1, e⟩ | ⟨h1, x, r', h2, e⟩
  · exact ⟨_, e, .inl ⟨h1, rfl⟩⟩
  · exact ⟨_, e, .inr ⟨h1, x, r', h2, rfl⟩⟩
include hE in
theorem opField_ok {ty : TypeId} {x : Operand} {i : Nat} (e : opField ty x i E m t lc h n k = some r) : Done P (.field ty x i) (opT m t lc) h.get n k r := by
  obtain ⟨v, hv, e⟩ := opd_inv e
  obtain ⟨ti, h1, e⟩ := oc_inv e
  obtain ⟨fs, p, h2, h3, e⟩ := fieldE_inv e
  obtain ⟨te, h4, e⟩ := oc_inv e
  obtain ⟨d, it, z, q1, q2, q3, q4, q5, q6, q7, _⟩ := (hE _ _ h1).ok
  rw [h2] at q7
  obtain ⟨Fs, rfl, _, q7⟩ := q7
  obtain ⟨fd, c1, c2, c3, _⟩ := q7 i p h3
  cases v with
  | c _ => exact nn e
  | t _ => exact nn e
  | a cs =>
    obtain ⟨h5, e⟩ := dropK_inv _ _ _ _ e
    obtain ⟨h6, e⟩ := takeK_inv _ _ _ _ e
    obtain ⟨v, e, h7⟩ := mkV_inv2 e
    rw [List.length_drop] at h6
    refine ⟨v, [], [], n, e, .ofPure fun N σ T2 a w ht hs => ?_⟩
    obtain ⟨vs, g1, g2⟩ := evO hv (by simp [Op.operands]) ht hs
    obtain ⟨u, g3, g4⟩ := run_part (w := w) (hE _ _ h4) g2 (off := p.1) (by omega) h7
    exact ⟨u, g3, fun o' q => by simp [execOp, q, g1, Instr.field, run_underlying q1, c1, asAgg, c2, c3, g4]⟩
theorem byl_get {s : ByteArray} {i c : Nat} (h : (byl s)[i]? = some c) : ∃ b : UInt8, s[i]? = some b ∧ b.toNat = c := by
  unfold byl at h
  rw [List.getElem?_map] at h
  cases q : s.data.toList[i]? with
  | none => rw [q] at h; cases h
  | some b =>
    rw [q] at h
    cases h
    refine ⟨b, ?_, rfl⟩
    have hlt : i < s.data.toList.length := (List.getElem?_eq_some_iff.1 q).1
    have hlt2 : i < s.size := by simpa using hlt
    rw [getElem?_pos s i hlt2]
    congr 1
    rw [List.getElem?_eq_getElem hlt] at q
    cases q
    rfl
include hE in
theorem opIndex_ok {ty : TypeId} {x ix : Operand} (e : opIndex ty x ix E m t lc h n k = some r) : Done P (.index ty x ix) (opT m t lc) h.get n k r := by
  obtain ⟨v, hv, e⟩ := opd_inv e
  obtain ⟨w', hw, e⟩ := opd_inv e
  obtain ⟨kd, i, rfl, e1⟩ := natK_inv e
  clear e
  obtain ⟨ti, h1, e⟩ := oc_inv e1
  clear e1
  obtain ⟨d, it, z, q1, q2, q3, q4, q5, q6, q7, _⟩ := (hE _ _ h1).ok
  revert e q7
  cases ti.d <;> intro e q7 <;> first | exact nn e | skip
  · have q7 : d = .string := q7
    subst q7
    obtain ⟨s, rfl, e1⟩ := strK_inv e
    obtain ⟨c, h2, e2⟩ := nthK_inv _ _ _ _ e1
    refine ⟨_, [], [], n, e2, .ofPure fun N σ T2 a w ht hs => ?_⟩
    obtain ⟨b, g1, g2⟩ := evO hv (by simp [Op.operands]) ht hs
    have hi : a.eval ix = .int kd (i : Int) := evO hw (by simp [Op.operands]) ht hs
    rw [← g2] at h2
    obtain ⟨u, h3, h4⟩ := byl_get h2
    exact ⟨.int .u8 c, rfl, fun o' q => by simp [execOp, q, g1, hi, Instr.index, asIntOf, run_underlying q1, h3, h4]⟩
  · rename_i len el
    have q7 : d = .array len el := q7.1
    subst q7
    obtain ⟨te, h2, e⟩ := oc_inv e
    cases v with
    | c _ => exact nn e
    | t _ => exact nn e
    | a cs =>
      obtain ⟨hlt, e⟩ := iff_inv e
      obtain ⟨h5, e⟩ := dropK_inv _ _ _ _ e
      obtain ⟨h6, e⟩ := takeK_inv _ _ _ _ e
      obtain ⟨v, e, h7⟩ := mkV_inv2 e
      have hlt := blt_iff hlt
      rw [List.length_drop] at h6
      refine ⟨v, [], [], n, e, .ofPure fun N σ T2 a w ht hs => ?_⟩
      obtain ⟨vs, g1, g2⟩ := evO hv (by simp [Op.operands]) ht hs
      have hi : a.eval ix = .int kd (i : Int) := evO hw (by simp [Op.operands]) ht hs
      have h5 : i * te.sz ≤ cs.length := h5
      have h6 : te.sz ≤ cs.length - i * te.sz := h6
      obtain ⟨u, g3, g4⟩ := run_part (w := w) (hE _ _ h2) g2 (off := i * te.sz) (by omega) h7
      obtain ⟨d', i', z', c1, c2, c3, _⟩ := (hE _ _ h2).ok
      exact ⟨u, g3, fun o' q => by simp [execOp, q, g1, hi, Instr.index, asIntOf, run_underlying q1, hlt, sizeOf, typeInfo, c2, c3, g4]⟩
theorem optN_inv {x : Option Operand} {d : Nat} {K : Nat → Option α} {r : α} (e : optN m t lc x d K = some r) : ∃ j, K j = some r ∧ ((x = none ∧ j = d) ∨ ∃ x0 kd, x = some x0 ∧ opF (opT m t lc) x0 (.c (.i kd (j : Int)))) := by
  cases x with
  | none => exact ⟨d, e, .inl ⟨rfl, rfl⟩⟩
  | some x =>
    obtain ⟨v, hv, e⟩ := opd_inv (e : opd m t lc x (fun v => natK v K) = some r)
    obtain ⟨kd, j, rfl, e1⟩ := natK_inv e
    exact ⟨j, e1, .inr ⟨x, kd, rfl, hv⟩⟩
def OptV (x : Option Value) (d j : Nat) : Prop := (x = none ∧ j = d) ∨ ∃ kd, x = some (.int kd (j : Int))
theorem optV {o : Op} {N : Nat} {σ : Sg} {T T2 : Nat → Option V} {a : Act} {x : Option Operand} {d j : Nat} (h : (x = none ∧ j = d) ∨ ∃ x0 kd, x = some x0 ∧ opF T x0 (.c (.i kd (j : Int)))) (hm : ∀ y, x = some y → y ∈ o.operands.toList) (ht : Tm o T T2) (hs : SL N σ T2 a) :
    OptV (x.map a.eval) d j := by
  rcases h with ⟨rfl, rfl⟩ | ⟨x0, kd, rfl, h⟩
  · exact .inl ⟨rfl, rfl⟩
  · have h1 : a.eval x0 = .int kd (j : Int) := evO h (hm x0 rfl) ht hs
    exact .inr ⟨kd, by simp [h1]⟩
theorem run_bounds {isSl : Bool} {len cap lo hi : Nat} {x y : Option Value} {w : World} (hx : OptV x 0 lo) (hy : OptV y len hi) (h1 : hi ≤ cap) (h2 : lo ≤ hi) : (Instr.sliceBounds isSl len cap x y none).run P w = .ok (lo, hi, cap) w := by
  rcases hx with ⟨rfl, rfl⟩ | ⟨kd, rfl⟩ <;> rcases hy with ⟨rfl, rfl⟩ | ⟨kd', rfl⟩ <;> simp [Instr.sliceBounds, Instr.sliceBound, asIntOf, h1, h2]
theorem byl_extract (s : ByteArray) (lo hi : Nat) : byl (s.extract lo hi) = ((byl s).drop lo).take (hi - lo) := by
  unfold byl
  rw [← List.map_drop, ← List.map_take]
  congr 1
  rw [ByteArray.data_extract]
  simp [List.take_drop, List.extract]
include hE in
theorem opSlice_ok {ty : TypeId} {x : Operand} {lo hi mx : Option Operand} (e : opSlice ty x lo hi mx E m t lc h n k = some r) : Done P (.slice ty x lo hi mx) (opT m t lc) h.get n k r := by
  cases mx with
  | some _ => exact nn e
  | none =>
  obtain ⟨v, hv, e⟩ := opd_inv (e : opd m t lc x _ = some r)
  obtain ⟨ti, h1, e⟩ := oc_inv e
  obtain ⟨d, it, z, q1, q2, q3, q4, q5, q6, q7, _⟩ := (hE _ _ h1).ok
  have ml : ∀ y, lo = some y → y ∈ (Op.slice ty x lo hi none).operands.toList := fun y hy => by simp [Op.operands, hy]
  have mh : ∀ y, hi = some y → y ∈ (Op.slice ty x lo hi none).operands.toList := fun y hy => by simp [Op.operands, hy]
  revert e q7
  cases ti.d <;> intro e q7 <;> first | exact nn e | skip
  · have q7 : d = .string := q7
    subst q7
    obtain ⟨s, rfl, e1⟩ := strK_inv e
    clear e
    rw [lenN_eq] at e1
    obtain ⟨j, e, hj⟩ := optN_inv e1
    obtain ⟨i, e, hi'⟩ := optN_inv e
    obtain ⟨h2, e⟩ := iff_inv e
    obtain ⟨h3, e⟩ := iff_inv e
    have h2 := ble_iff h2
    have h3 := ble_iff h3
    obtain ⟨h4, e⟩ := dropN_inv _ _ _ _ e
    rw [fN_eq] at e
    obtain ⟨h5, e⟩ := takeN_inv _ _ _ _ e
    refine ⟨_, [], [], n, e, .ofPure fun N σ T2 a w ht hs => ?_⟩
    obtain ⟨b, g1, g2⟩ := evO hv (by simp [Op.operands]) ht hs
    have hb : s.length = b.size := by rw [← g2, byl_len]
    have hB := run_bounds (P := P) (w := w) (isSl := false) (optV hi' ml ht hs) (optV hj mh ht hs) (by omega) h3 (cap := b.size)
    rw [hb] at hB
    exact ⟨.string (b.extract i j), ⟨_, rfl, by rw [byl_extract, g2]; rfl⟩, fun o' q => by simp [execOp, q, g1, Instr.sliceAt, Instr.slice, run_underlying q1, hB]⟩
  · rename_i el
    have q7 : d = .slice el := q7
    subst q7
    obtain ⟨te, h2, e⟩ := oc_inv e
    obtain ⟨d', i', z', c1, c2, c3, _⟩ := (hE _ _ h2).ok
    rcases slK_inv e with ⟨rfl, e1⟩ | ⟨b, o, len, cap, rfl, e1⟩
    · obtain ⟨j, e2, hj⟩ := optN_inv e1
      obtain ⟨i, e3, hi'⟩ := optN_inv e2
      obtain ⟨h3, e4⟩ := iff_inv e3
      obtain ⟨h4, e5⟩ := iff_inv e4
      obtain rfl := beq_iff' h3
      obtain rfl := beq_iff' h4
      refine ⟨_, [], [], n, e5, .ofPure fun N σ T2 a w ht hs => ?_⟩
      have g1 : a.eval x = .slice none 0 0 := evO hv (by simp [Op.operands]) ht hs
      have hB := run_bounds (P := P) (w := w) (isSl := true) (optV hi' ml ht hs) (optV hj mh ht hs) (Nat.le_refl _) (Nat.le_refl _) (cap := 0)
      exact ⟨.slice none 0 0, rfl, fun o' q => by simp [execOp, q, g1, Instr.sliceAt, Instr.slice, run_underlying q1, hB, sizeOf, typeInfo, c2]⟩
    · obtain ⟨j, e2, hj⟩ := optN_inv e1
      obtain ⟨i, e3, hi'⟩ := optN_inv e2
      obtain ⟨h3, e4⟩ := iff_inv e3
      obtain ⟨h4, e5⟩ := iff_inv e4
      have h3 := ble_iff h3
      have h4 := ble_iff h4
      rw [fN_eq, fN_eq, fN_eq] at e5
      refine ⟨_, [], [], n, e5, .ofPure fun N σ T2 a w ht hs => ?_⟩
      obtain ⟨b', y, g1, g2 | ⟨rfl, rfl, o2, g2⟩⟩ := evO hv (by simp [Op.operands]) ht hs
      · have hB := run_bounds (P := P) (w := w) (isSl := true) (optV hi' ml ht hs) (optV hj mh ht hs) (Nat.le_trans h3 (Nat.le_add_right cap y)) h4
        by_cases hm : cap + y = i
        · refine ⟨.slice (some ⟨b', o, none⟩) 0 0, ⟨b', y, g1, .inr ⟨by show j - i = 0; omega, by show cap - i = 0; omega, o, rfl⟩⟩, fun o' q => ?_⟩
          have hz : j - i = 0 := by omega
          rw [hm] at hB
          simp [execOp, q, g2, Instr.sliceAt, Instr.slice, run_underlying q1, hB, sizeOf, typeInfo, c2, hm, hz]
        · refine ⟨.slice (some ⟨b', o + i * te.sz, none⟩) (j - i) (cap - i + y), ⟨b', y, g1, .inl rfl⟩, fun o' q => ?_⟩
          have hz : cap + y - i = cap - i + y := by omega
          simp [execOp, q, g2, Instr.sliceAt, Instr.slice, run_underlying q1, hB, sizeOf, typeInfo, c2, c3, hm, hz, Sl.add_lit]
      · obtain rfl : j = 0 := by omega
        obtain rfl : i = 0 := by omega
        have hB := run_bounds (P := P) (w := w) (isSl := true) (optV hi' ml ht hs) (optV hj mh ht hs) (Nat.le_refl _) (Nat.le_refl _) (cap := 0)
        exact ⟨.slice (some ⟨b', o2, none⟩) 0 0, ⟨b', y, g1, .inr ⟨rfl, rfl, o2, rfl⟩⟩, fun o' q => by simp [execOp, q, g2, Instr.sliceAt, Instr.slice, run_underlying q1, hB, sizeOf, typeInfo, c2]⟩
end
end Go.D
namespace Go.D
set_option linter.unusedVariables false
set_option linter.unusedSimpArgs false
open Go.RowKit Go.Sl
section
variable {α : Type} {P : Program} {E : Env} {m : Nat} {t : Tr V} {lc : Ls} {h : H} {n : Nat} {k : KO α} {r : α}
variable (hE : ∀ t ti, E.tt.get t = some ti → TIok P t ti)
theorem zrow {z : Array Value} {k n q r : Nat} (hz : z.size = k) (h1 : q * k + r < n) (h2 : r < k) : ((Array.range n).map (fun i => z[i % z.size]!))[q * k + r]? = z[r]? := by
  have hm : (q * k + r) % k = r := by
    rw [Nat.add_comm, Nat.add_mul_mod_self_right, Nat.mod_eq_of_lt h2]
  have hlt : r < z.size := by omega
  simp [h1, hz, hm]
  rw [getElem!_pos z r hlt, Array.getElem?_eq_getElem hlt]
theorem i64_small {j : Nat} (h : j ≤ 65536) : IntKind.i64.wrap (j : Int) = j := by
  simp [IntKind.wrap, IntKind.bits, IntKind.signed]; omega
include hE in
theorem opMakeSlice_ok {ty : TypeId} {x y : Operand} (e : opMakeSlice ty x y E m t lc h n k = some r) : Done P (.makeSlice ty x y) (opT m t lc) h.get n k r := by
  obtain ⟨v, hv, e⟩ := opd_inv e
  obtain ⟨kd, l, rfl, e1⟩ := natK_inv e
  obtain ⟨v2, hv2, e2⟩ := opd_inv e1
  obtain ⟨kd2, c, rfl, e3⟩ := natK_inv e2
  obtain ⟨h1, e4⟩ := iff_inv e3
  obtain ⟨h2, e5⟩ := iff_inv e4
  obtain ⟨el, i, z, q1, q2, q3, q4, zl, q5, q6, e6⟩ := elemK_inv hE e5
  obtain ⟨h3, e7⟩ := iff_inv e6
  obtain ⟨c', h4, e8⟩ := repRows_inv _ _ _ _ _ _ e7
  have h1 := ble_iff h1
  have h2 := ble_iff h2
  have h3 := ble_iff h3
  refine ⟨_, [], _, n + 1, e8, .ofNew fun N σ T2 a w ht hs hn => ?_⟩
  have hl : a.eval x = .int kd (l : Int) := evO hv (by simp [Op.operands]) ht hs
  have hc : a.eval y = .int kd2 (c : Int) := evO hv2 (by simp [Op.operands]) ht hs
  have hz := (q5 σ).len
  have hz : z.cells.size = i.size := by simp at hz; omega
  have hmul : i.bytes * c ≤ 65536 * 65536 := Nat.mul_le_mul h3 h2
  have hmul2 : c * i.bytes ≤ 65536 * 65536 := Nat.mul_le_mul h2 h3
  refine ⟨.slice (some ⟨w.heap.size, 0, none⟩) l c, w.alloc (.cells ((Array.range (c * i.size)).map (fun j => z.cells[j % z.cells.size]!)) el), w.heap.size, 0, Grew.alloc w _ none, Nat.le_refl _, by simp, ⟨_, _, sgSet_at, .inl rfl⟩,
    BR.ofCells (heap_alloc_new w _) (.inl rfl) (by simp) (fun _ => rfl) (fun q row hq hr => ?_), fun o' q => ?_⟩
  · rw [h4, if_pos ⟨Nat.zero_le _, by omega⟩] at hr
    cases hr
    refine ⟨q6, z.cells.toList, q5 _, fun j v hj => ?_⟩
    have hj' : j < i.size := by
      have := (List.getElem?_eq_some_iff.1 hj).1
      simp at this; omega
    have : (q + 1) * i.size ≤ c * i.size := Nat.mul_le_mul_right _ hq
    rw [Nat.succ_mul] at this
    rw [zrow hz (by omega) hj']
    simpa using hj
  · have w1 := i64_small (j := l) (by omega)
    have w2 := i64_small (j := c) h2
    have t1 : ¬ ((c : Int) < 0) := by omega
    have t2 : ¬ ((281474976710656 : Int) < (i.bytes : Int) * (c : Int)) := by
      have : ((i.bytes * c : Nat) : Int) ≤ 65536 * 65536 := by omega
      rw [Int.natCast_mul] at this
      omega
    have t3 : ¬ ((l : Int) < 0) := by omega
    have t4 : ¬ ((c : Int) < (l : Int)) := by omega
    have t5 : ¬ (140737488355328 < c * i.bytes) := by omega
    by_cases hz0 : c * i.size = 0
    · have : c = 0 := by
        rcases Nat.mul_eq_zero.1 hz0 with h | h
        · exact h
        · omega
      subst this
      obtain rfl : l = 0 := by omega
      have hr0 : Array.range 0 = #[] := by simp [Array.range]
      have w0 : IntKind.i64.wrap 0 = 0 := i64_small (j := 0) (by omega)
      simp [execOp, q, hl, hc, Instr.makeSlice, run_underlying q1, asInt, asIntOf, typeInfo, q2, w0, askRoom, sizeOf, newRow, hr0]
    · simp [execOp, q, hl, hc, Instr.makeSlice, run_underlying q1, asInt, asIntOf, typeInfo, q2, w1, w2, t1, t2, t3, t4, askRoom, roomBytes, sizeOf, hz0, zeroValue, q3, newRow]
def RowsR (σ : Sg) (sz len : Nat) (c : Tr (List C)) (cells : Array Value) : Prop := cells.size = len * sz ∧ ∀ q row, q < len → c.get q = some row → row.length = sz ∧ ∃ vs, CL σ row vs ∧ ∀ r v, vs[r]? = some v → cells[q * sz + r]? = some v
theorem fill_step {place : Nat → Option (Nat × Nat)} {i off : Nat} {v : Value} {rest : List (Nat × Value)} {cells : Array Value} (hp : place i = some (off, v.cells.size)) (h : off + v.cells.size ≤ cells.size) :
    ∃ cells', Instr.fill place cells ((i, v) :: rest) = Instr.fill place cells' rest ∧ cells'.size = cells.size ∧ ∀ j, cells'[j]? = if off ≤ j ∧ j < off + v.cells.size then v.cells[j - off]? else cells[j]? := by
  obtain ⟨g1, g2⟩ := Great.foldl_set off v.cells.toList 0 cells
  refine ⟨_, ?_, g1, fun j => ?_⟩
  · conv => lhs; unfold Instr.fill
    simp only [hp]
    rw [if_neg (by simp; omega)]
    congr 1
    rw [← Array.foldl_toList, Array.toList_zipIdx]
  · rw [g2 j]
    simp only [Nat.add_zero, Array.length_toList]
    by_cases hh : off ≤ j ∧ j < off + v.cells.size
    · rw [if_pos ⟨hh.1, hh.2, by omega⟩, if_pos hh]; simp
    · rw [if_neg (by omega), if_neg hh]
theorem partRows_inv {o : Op} (len sz : Nat) : ∀ (ps : List (Nat × Operand)) (c : Tr (List C)) (K : Tr (List C) → Option α) (r : α), (∀ p ∈ ps, p.2 ∈ o.operands.toList) → partRows m t lc len sz ps c K = some r →
    ∃ c', K c' = some r ∧ ∀ (N : Nat) (σ : Sg) (T2 : Nat → Option V) (a : Act) (cells : Array Value), Tm o (opT m t lc) T2 → SL N σ T2 a → RowsR σ sz len c cells →
      ∃ cells', Instr.fill (fun i => some (i * sz, sz)) cells (ps.map fun p => (p.1, a.eval p.2)) = some cells' ∧ RowsR σ sz len c' cells'
  | [], c, K, r, _, e => ⟨c, e, fun N σ T2 a cells _ _ hR => ⟨cells, rfl, hR⟩⟩
  | (i, x) :: ps, c, K, r, hm, e => by
    obtain ⟨v, hv, e1⟩ := opd_inv (e : opd m t lc x (fun v => vcells v fun xs => lenN xs fun L => iff (Nat.beq L sz) (iff (Nat.blt i len) (Tr.putK xs c i fun c => partRows m t lc len sz ps c K))) = some r)
    obtain ⟨xs, hx, e2⟩ := vcells_inv e1
    rw [lenN_eq] at e2
    obtain ⟨h1, e3⟩ := iff_inv e2
    obtain ⟨h2, e4⟩ := iff_inv e3
    obtain ⟨c1, h3, e5⟩ := Tr.putK_inv e4
    have h1 := beq_iff' h1
    have h2 := blt_iff h2
    obtain ⟨c', e6, H⟩ := partRows_inv (o := o) len sz ps c1 K r (fun p hp => hm p (by simp [hp])) e5
    refine ⟨c', e6, fun N σ T2 a cells ht hs hR => ?_⟩
    have hu := (evO (a := a) hv (hm (i, x) (by simp)) ht hs).cells hx
    have hz := hu.len
    have hz : (a.eval x).cells.size = sz := by simp at hz; omega
    have hle : (i + 1) * sz ≤ len * sz := Nat.mul_le_mul_right _ h2
    rw [Nat.succ_mul] at hle
    obtain ⟨cells1, g1, g2, g3⟩ := fill_step (place := fun i => some (i * sz, sz)) (i := i) (off := i * sz) (v := a.eval x) (rest := ps.map fun p => (p.1, a.eval p.2)) (cells := cells) (by rw [hz]) (by rw [hR.1, hz]; exact hle)
    obtain ⟨cells', g4, g5⟩ := H N σ T2 a cells1 ht hs ⟨g2.trans hR.1, fun q row hq hr => by
      rw [h3] at hr
      by_cases eq : q = i
      · rw [if_pos eq] at hr
        cases hr
        subst eq
        refine ⟨h1, _, hu, fun r v hv => ?_⟩
        have hr' : r < sz := by
          have := (List.getElem?_eq_some_iff.1 hv).1
          simp at this; omega
        rw [g3, if_pos ⟨by omega, by omega⟩, show q * sz + r - q * sz = r by omega]
        simpa using hv
      · rw [if_neg eq] at hr
        obtain ⟨f1, vs, f2, f3⟩ := hR.2 q row hq hr
        refine ⟨f1, vs, f2, fun r v hv => ?_⟩
        have hr' : r < sz := by
          have := (List.getElem?_eq_some_iff.1 hv).1
          have := f2.len
          omega
        rw [g3, if_neg ?_]
        · exact f3 r v hv
        · rcases Nat.lt_or_ge q i with hlt | hge
          · have : (q + 1) * sz ≤ i * sz := Nat.mul_le_mul_right _ hlt
            rw [Nat.succ_mul] at this
            omega
          · have : (i + 1) * sz ≤ q * sz := Nat.mul_le_mul_right _ (by omega)
            rw [Nat.succ_mul] at this
            omega⟩
    exact ⟨cells', by rw [List.map_cons, g1, g4], g5⟩
include hE in
theorem opBuildSlice_ok {ty : TypeId} {len : Nat} {ps : Array (Nat × Operand)} (e : opBuildSlice ty len ps E m t lc h n k = some r) : Done P (.buildSlice ty len ps) (opT m t lc) h.get n k r := by
  obtain ⟨el, i, z, q1, q2, q3, q4, zl, q5, q6, e1⟩ := elemK_inv hE e
  obtain ⟨h1, e2⟩ := iff_inv e1
  have h1 : len * i.size ≤ 65536 := ble_iff h1
  obtain ⟨c0, h2, e3⟩ := repRows_inv _ _ _ _ _ _ e2
  obtain ⟨c', e4, H⟩ := partRows_inv (o := .buildSlice ty len ps) len i.size ps.toList c0 _ _ (fun p hp => by simp [Op.operands]; exact ⟨p.1, by simpa using hp⟩) e3
  refine ⟨_, [], _, n + 1, e4, .ofNew fun N σ T2 a w ht hs hn => ?_⟩
  have hz := (q5 σ).len
  have hz : z.cells.size = i.size := by simp at hz; omega
  obtain ⟨cells, g1, g2⟩ := H N σ T2 a ((Array.range (len * i.size)).map (fun j => z.cells[j % z.cells.size]!)) ht hs ⟨by simp, fun q row hq hr => by
    rw [h2, if_pos ⟨Nat.zero_le _, by omega⟩] at hr
    cases hr
    refine ⟨q6, z.cells.toList, q5 _, fun j v hj => ?_⟩
    have hj' : j < i.size := by
      have := (List.getElem?_eq_some_iff.1 hj).1
      simp at this; omega
    have : (q + 1) * i.size ≤ len * i.size := Nat.mul_le_mul_right _ hq
    rw [Nat.succ_mul] at this
    rw [zrow hz (by omega) hj']
    simpa using hj⟩
  have hps : (ps.map fun (i, x) => (i, a.eval x)).toList = ps.toList.map fun p => (p.1, a.eval p.2) := by simp
  have hrun : (Instr.buildSlice ty len (ps.map fun (i, x) => (i, a.eval x))).run P w = .ok (.slice (some ⟨w.heap.size, 0, none⟩) len len) (w.alloc (.cells cells el)) := by
    by_cases h0 : len * i.size = 0
    · have hl : len = 0 := by
        rcases Nat.mul_eq_zero.1 h0 with h | h
        · exact h
        · omega
      subst hl
      have hr0 : Array.range 0 = #[] := by simp [Array.range]
      have g1 : Instr.fill (fun i_1 => some (i_1 * i.size, i.size)) #[] (ps.toList.map fun p => (p.1, a.eval p.2)) = some cells := by
        simpa [hr0] using g1
      simp [Instr.buildSlice, run_underlying q1, sizeOf, typeInfo, q2, newRow, hr0, g1]
    · exact run_buildSlice (P := P) w ty el len _ cells i z q1 q2 q3 (by omega) h0 (by rw [hps]; exact g1)
  refine ⟨.slice (some ⟨w.heap.size, 0, none⟩) len len, w.alloc (.cells cells el), w.heap.size, 0, Grew.alloc w _ none, Nat.le_refl _, by simp, ⟨_, _, sgSet_at, .inl rfl⟩,
    BR.ofCells (heap_alloc_new w _) (.inl rfl) (by rw [g2.1]; simp) (fun _ => rfl) (fun q row hq hr => ?_), fun o' q => ?_⟩
  · obtain ⟨f1, vs, f2, f3⟩ := g2.2 q row hq hr
    exact ⟨f1, vs, f2.le (sgSet_le hn), f3⟩
  · simp only [execOp, q, Sem.run_bind, hrun, Result.andThen_ok, Sem.run_pure]
end
end Go.D
namespace Go.D
set_option linter.unusedVariables false
set_option linter.unusedSimpArgs false
open Go.RowKit Go.Sl
section
variable {α : Type} {P : Program} {E : Env} {m : Nat} {t : Tr V} {lc : Ls} {h : H} {n : Nat} {k : KO α} {r : α}
variable (hE : ∀ t ti, E.tt.get t = some ti → TIok P t ti)
def Place (P : Program) (d : Ds) (place : Nat → Option (Nat × Nat)) : Prop := match d with
  | .struct fs => ∀ (i : Nat) (p : Nat × TypeId), fs[i]? = some p → ∃ j, P.info? p.2 = some j ∧ place i = some (p.1, j.size)
  | .array _ e => ∃ j, P.info? e = some j ∧ ∀ i, place i = some (i * j.size, j.size)
  | _ => False
theorem places {P : Program} : ∀ (Fl : List Field), (∀ f ∈ Fl, ∃ i, P.info? f.type = some i) → ∃ pl, Fl.mapM (fun f => (P.info? f.type).map fun i => (f.offset, i.size)) = some pl ∧ ∀ (j : Nat) (f : Field), Fl[j]? = some f → ∃ i, P.info? f.type = some i ∧ pl[j]? = some (f.offset, i.size)
  | [], _ => ⟨[], by simp, fun j f hj => by simp at hj⟩
  | f :: Fl, h => by
    obtain ⟨i, hi⟩ := h f (by simp)
    obtain ⟨pl, h1, h2⟩ := places Fl (fun g hg => h g (by simp [hg]))
    refine ⟨(f.offset, i.size) :: pl, by simp [List.mapM_cons, hi, h1], fun j g hj => ?_⟩
    cases j with
    | zero => cases hj; exact ⟨i, hi, rfl⟩
    | succ j =>
      obtain ⟨i', g1, g2⟩ := h2 j g (by simpa using hj)
      exact ⟨i', g1, by simpa using g2⟩
include hE in
theorem partAt_inv {d : Ds} {i : Nat} {K : Nat → Nat → Option α} {r : α} {place : Nat → Option (Nat × Nat)} (hp : Place P d place) (e : partAt E d i K = some r) : ∃ o sz, place i = some (o, sz) ∧ K o sz = some r := by
  cases d <;> first | exact nn e | skip
  · rename_i fs
    obtain ⟨p, h1, e1⟩ := nthK_inv _ _ _ _ (e : nthK fs i (fun p => Prod.rec (fun o ty => oc (E.tt.get ty) fun te => K o te.sz) p) = some r)
    obtain ⟨o, ty⟩ := p
    obtain ⟨te, h2, e2⟩ := oc_inv (e1 : oc (E.tt.get ty) (fun te => K o te.sz) = some r)
    obtain ⟨j, g1, g2⟩ := hp i (o, ty) h1
    obtain ⟨d', i', z', c1, c2, c3, _⟩ := (hE _ _ h2).ok
    rw [c2] at g1
    cases g1
    exact ⟨o, te.sz, by rw [g2, c3], e2⟩
  · rename_i len el
    obtain ⟨te, h2, e2⟩ := oc_inv (e : oc (E.tt.get el) (fun te => fN (Nat.mul i te.sz) fun o => K o te.sz) = some r)
    rw [fN_eq] at e2
    obtain ⟨j, g1, g2⟩ := hp
    obtain ⟨d', i', z', c1, c2, c3, _⟩ := (hE _ _ h2).ok
    rw [c2] at g1
    cases g1
    exact ⟨i * te.sz, te.sz, by rw [g2, c3], e2⟩
include hE in
theorem parts_inv {o : Op} {d : Ds} {place : Nat → Option (Nat × Nat)} (hp : Place P d place) : ∀ (ps : List (Nat × Operand)) (l : List C) (K : List C → Option α) (r : α), (∀ p ∈ ps, p.2 ∈ o.operands.toList) → parts E m t lc d ps l K = some r →
    ∃ l', K l' = some r ∧ ∀ (N : Nat) (σ : Sg) (T2 : Nat → Option V) (a : Act) (cells : Array Value), Tm o (opT m t lc) T2 → SL N σ T2 a → CL σ l cells.toList →
      ∃ cells', Instr.fill place cells (ps.map fun p => (p.1, a.eval p.2)) = some cells' ∧ CL σ l' cells'.toList
  | [], l, K, r, _, e => ⟨l, e, fun N σ T2 a cells _ _ hR => ⟨cells, rfl, hR⟩⟩
  | (i, x) :: ps, l, K, r, hm, e => by
    obtain ⟨v, hv, e1⟩ := opd_inv (e : opd m t lc x (fun v => partAt E d i fun o sz => vcells v fun xs => lenN xs fun L => iff (Nat.beq L sz) (layK xs o l fun l => parts E m t lc d ps l K)) = some r)
    obtain ⟨off, sz, h1, e2⟩ := partAt_inv hE hp e1
    obtain ⟨xs, hx, e3⟩ := vcells_inv e2
    rw [lenN_eq] at e3
    obtain ⟨h2, e4⟩ := iff_inv e3
    have h2 := beq_iff' h2
    obtain ⟨h3, e5⟩ := layK_inv _ _ _ _ _ e4
    obtain ⟨l', e6, H⟩ := parts_inv (o := o) hp ps _ K r (fun p hp => hm p (by simp [hp])) e5
    refine ⟨l', e6, fun N σ T2 a cells ht hs hR => ?_⟩
    have hu := (evO (a := a) hv (hm (i, x) (by simp)) ht hs).cells hx
    have hz := hu.len
    have hz : (a.eval x).cells.size = sz := by simp at hz; omega
    have hcl := hR.len
    have hcl : cells.size = l.length := by simpa using hcl
    obtain ⟨cells1, g1, g2, g3⟩ := fill_step (place := place) (i := i) (off := off) (v := a.eval x) (rest := ps.map fun p => (p.1, a.eval p.2)) (cells := cells) (by rw [hz]; exact h1) (by omega)
    have hnew : CL σ (l.take off ++ xs ++ l.drop (off + xs.length)) (cells.toList.take off ++ (a.eval x).cells.toList ++ cells.toList.drop (off + xs.length)) := ((hR.take _).append hu).append (hR.drop _)
    have he : cells1.toList = cells.toList.take off ++ (a.eval x).cells.toList ++ cells.toList.drop (off + xs.length) := by
      apply List.ext_getElem?
      intro j
      rw [Array.getElem?_toList, g3 j]
      have hl1 : (cells.toList.take off).length = off := by simp; omega
      by_cases c1 : j < off
      · rw [if_neg (by omega), List.append_assoc, List.getElem?_append_left (by omega), List.getElem?_take_of_lt c1, Array.getElem?_toList]
      · by_cases c2 : j < off + (a.eval x).cells.size
        · rw [if_pos ⟨by omega, c2⟩, List.append_assoc, List.getElem?_append_right (by omega), hl1, List.getElem?_append_left (by simp; omega), Array.getElem?_toList]
        · rw [if_neg (by omega), List.getElem?_append_right (by simp; omega)]
          have : (cells.toList.take off ++ (a.eval x).cells.toList).length = off + (a.eval x).cells.size := by simp; omega
          rw [this, List.getElem?_drop, Array.getElem?_toList]
          congr 1; omega
    rw [← he] at hnew
    obtain ⟨cells', g4, g5⟩ := H N σ T2 a cells1 ht hs hnew
    exact ⟨cells', by rw [List.map_cons, g1, g4], g5⟩
include hE in
theorem opBuild_ok {ty : TypeId} {ps : Array (Nat × Operand)} (e : opBuild ty ps E m t lc h n k = some r) : Done P (.build ty ps) (opT m t lc) h.get n k r := by
  obtain ⟨ti, h1, e1⟩ := oc_inv e
  obtain ⟨hag, e2⟩ := iff_inv e1
  obtain ⟨d, it, z, q1, q2, q3, q4, q5, q6, q7, q8, q9, q10, q11⟩ := (hE _ _ h1).ok
  have hb : ∃ place, Place P ti.d place ∧ ∀ parts cells, Instr.fill place z.cells parts = some cells → P.built ty parts = some cells := by
    clear q6 e2 e1
    revert hag q7
    cases ti.d with
    | struct fs =>
      intro _ q7
      obtain ⟨Fs, rfl, c1, c2⟩ := q7
      obtain ⟨pl, g1, g2⟩ := places (P := P) Fs.toList (fun f hf => by
        obtain ⟨j, hj, rfl⟩ := List.mem_iff_getElem.1 hf
        have hj2 : j < fs.length := by simpa [c1] using hj
        obtain ⟨f, f1, _, f3, i, f4, _⟩ := c2 j fs[j] (by simp)
        have : f = Fs.toList[j] := by
          rw [← Array.getElem?_toList, List.getElem?_eq_getElem hj] at f1
          exact (Option.some.inj f1).symm
        rw [← this]
        exact ⟨i, f4⟩)
      refine ⟨(pl.toArray[·]?), fun i p hp => ?_, fun parts cells hf => ?_⟩
      · obtain ⟨f, f1, f2, f3, j, f4, _⟩ := c2 i p hp
        obtain ⟨j', g3, g4⟩ := g2 i f (by rw [Array.getElem?_toList]; exact f1)
        rw [f4] at g3
        cases g3
        exact ⟨j, by rw [← f3]; exact f4, by rw [← f2]; simpa using g4⟩
      · unfold Program.built
        simp only [q2, q1, q5, g1]
        exact hf
    | array len el =>
      intro _ q7
      obtain ⟨rfl, j, hi⟩ := q7
      · refine ⟨fun i => some (i * j.size, j.size), ⟨j, hi, fun _ => rfl⟩, fun parts cells hf => ?_⟩
        unfold Program.built
        simp only [q2, q1, q5, hi]
        exact hf
    | _ => intro hag; cases hag
  obtain ⟨place, hp, hbuilt⟩ := hb
  obtain ⟨l', e3, H⟩ := parts_inv hE (o := .build ty ps) hp ps.toList _ _ _ (fun p hp => by simp [Op.operands]; exact ⟨p.1, by simpa using hp⟩) e2
  refine ⟨_, [], [], n, e3, .ofPure fun N σ T2 a w ht hs => ?_⟩
  obtain ⟨cells, g1, g2⟩ := H N σ T2 a z.cells ht hs (q8 σ)
  have hps : (ps.map fun (i, x) => (i, a.eval x)).toList = ps.toList.map fun p => (p.1, a.eval p.2) := by simp
  refine ⟨.agg cells, ⟨cells.toList, by simp, g2⟩, fun o' q => ?_⟩
  simp only [execOp, q, Sem.run_bind, run_build w ty _ cells (hbuilt _ _ (by rw [hps]; exact g1)), Result.andThen_ok, Sem.run_pure]
include hE in
theorem len_ok {ats : List TypeId} {ars : List Operand} {l : List V} (hl : opFs (opT m t lc) ars l) (e : builtinK .len ats l E h n k = some r) : Done P (.call ⟨.builtin .len, ars.toArray, ats.toArray⟩) (opT m t lc) h.get n k r := by
  cases l with
  | nil => exact nn e
  | cons v l =>
  cases l with
  | cons _ _ => exact nn e
  | nil =>
  cases ats with
  | nil => exact nn e
  | cons ty ats =>
  cases ars with
  | nil => exact hl.elim
  | cons x ars =>
  cases ars with
  | cons _ _ => exact hl.2.elim
  | nil =>
  have hv := hl.1
  obtain ⟨ti, h1, e1⟩ := oc_inv (e : oc (E.tt.get ty) _ = some r)
  obtain ⟨d, it, z, q1, q2, q3, q4, q5, q6, q7, _⟩ := (hE _ _ h1).ok
  have hm : x ∈ (Op.call ⟨.builtin .len, [x].toArray, (ty :: ats).toArray⟩).operands.toList := by simp [Op.operands, Call.operands]
  revert e1 q7
  cases ti.d <;> intro e1 q7 <;> first | exact nn e1 | skip
  · have q7 : d = .string := q7
    subst q7
    obtain ⟨s, rfl, e2⟩ := strK_inv e1
    rw [lenN_eq] at e2
    refine ⟨_, [], [], n, e2, .ofPure fun N σ T2 a w ht hs => ?_⟩
    obtain ⟨b, g1, g2⟩ := evO hv hm ht hs
    refine ⟨.int .i64 b.size, by show _ = _; rw [← g2, byl_len]; rfl, fun o' q => ?_⟩
    simp [execOp, q, resolve, invoke, builtin, g1, Builtin.len_, run_underlying q1, goInt]
  · rename_i el
    have q7 : d = .slice el := q7
    subst q7
    rcases slK_inv e1 with ⟨rfl, e2⟩ | ⟨b, o, len, cap, rfl, e2⟩
    · refine ⟨_, [], [], n, e2, .ofPure fun N σ T2 a w ht hs => ?_⟩
      have g1 : a.eval x = .slice none 0 0 := evO hv hm ht hs
      exact ⟨.int .i64 0, rfl, fun o' q => by simp [execOp, q, resolve, invoke, builtin, g1, Builtin.len_, run_underlying q1, goInt]⟩
    · refine ⟨_, [], [], n, e2, .ofPure fun N σ T2 a w ht hs => ?_⟩
      obtain ⟨b', y, g1, g2 | ⟨rfl, rfl, o2, g2⟩⟩ := evO hv hm ht hs
      · exact ⟨.int .i64 len, rfl, fun o' q => by simp [execOp, q, resolve, invoke, builtin, g2, Builtin.len_, run_underlying q1, goInt]⟩
      · exact ⟨.int .i64 0, rfl, fun o' q => by simp [execOp, q, resolve, invoke, builtin, g2, Builtin.len_, run_underlying q1, goInt]⟩
end
end Go.D
namespace Go.D
set_option linter.unusedVariables false
set_option linter.unusedSimpArgs false
open Go.RowKit Go.Sl
section
variable {α : Type} {P : Program} {E : Env} {m : Nat} {t : Tr V} {lc : Ls} {h : H} {n : Nat} {k : KO α} {r : α}
variable (hE : ∀ t ti, E.tt.get t = some ti → TIok P t ti)
theorem mapB_inv {o : AO} {K : List (List Nat × C) → Option α} {r : α} (e : mapB o K = some r) : ∃ es, o = .map es ∧ K es = some r := by
  cases o <;> first | exact nn e | exact ⟨_, rfl, e⟩
include hE in
theorem strKey_inv {ty : TypeId} {K : TypeId → Option α} {r : α} (e : strKey E ty K = some r) : ∃ kt vt, P.underlying ty = some (.map kt vt) ∧ P.underlying kt = some .string ∧ K vt = some r := by
  obtain ⟨ti, h1, e1⟩ := oc_inv e
  obtain ⟨d, it, z, q1, q2, q3, q4, q5, q6, q7, _⟩ := (hE _ _ h1).ok
  revert e1 q7
  cases ti.d <;> intro e1 q7 <;> first | exact nn e1 | skip
  rename_i kt vt
  have q7 : d = .map kt vt := q7
  subst q7
  obtain ⟨tk, h2, e2⟩ := oc_inv (e1 : oc (E.tt.get kt) _ = some r)
  obtain ⟨d', it', z', c1, c2, c3, c4, c5, c6, c7, _⟩ := (hE _ _ h2).ok
  revert e2 c7
  cases tk.d <;> intro e2 c7 <;> first | exact nn e2 | skip
  have c7 : d' = .string := c7
  subst c7
  exact ⟨kt, vt, q1, c1, e2⟩
theorem mget_R {σ : Sg} {s : ByteArray} : ∀ {es : List (List Nat × C)} {mm : List (ByteArray × Value)}, MR σ es mm → (∃ c v, mget es (byl s) = some c ∧ Sl.mget mm s = some v ∧ CC σ c v) ∨ (mget es (byl s) = none ∧ Sl.mget mm s = none)
  | [], [], _ => .inr ⟨rfl, rfl⟩
  | (k, c) :: es, (u, v) :: mm, ⟨⟨h1, h2⟩, h3⟩ => by
    have he : mget ((k, c) :: es) (byl s) = bif beqL k (byl s) then some c else mget es (byl s) := by
      show (Bool.rec (mget es (byl s)) (some c) (beqL k (byl s)) : Option C) = _
      cases beqL k (byl s) <;> rfl
    rw [he, beqL_eq]
    by_cases q : u = s
    · subst q
      left
      refine ⟨c, v, by simp [h1], by simp [Sl.mget], h2⟩
    · have hk : k ≠ byl s := fun e => q (byl_inj (h1.trans e))
      have hm : Sl.mget ((u, v) :: mm) s = Sl.mget mm s := by simp [Sl.mget, q]
      rw [hm]
      simpa [hk] using mget_R h3
theorem mput_R {σ : Sg} {s : ByteArray} {c0 : C} {v0 : Value} (hc : CC σ c0 v0) : ∀ {es : List (List Nat × C)} {mm : List (ByteArray × Value)}, MR σ es mm → MR σ (mput es (byl s) c0) (Sl.mput mm s v0)
  | [], [], _ => ⟨⟨rfl, hc⟩, trivial⟩
  | (k, c) :: es, (u, v) :: mm, ⟨⟨h1, h2⟩, h3⟩ => by
    have he : mput ((k, c) :: es) (byl s) c0 = bif beqL k (byl s) then (k, c0) :: es else (k, c) :: mput es (byl s) c0 := by
      show (Bool.rec ((k, c) :: mput es (byl s) c0) ((k, c0) :: es) (beqL k (byl s)) : List (List Nat × C)) = _
      cases beqL k (byl s) <;> rfl
    rw [he, beqL_eq]
    by_cases q : u = s
    · subst q
      rw [Sl.mput, if_pos rfl]
      simp only [h1, decide_true, cond_true]
      exact ⟨⟨h1, hc⟩, h3⟩
    · have hk : k ≠ byl s := fun e => q (byl_inj (h1.trans e))
      rw [Sl.mput, if_neg q]
      simp only [hk, decide_false, cond_false]
      exact ⟨⟨h1, h2⟩, mput_R hc h3⟩
include hE in
theorem opLookup_ok {ty : TypeId} {x y : Operand} {ok : Bool} (e : opLookup ty x y ok E m t lc h n k = some r) : Done P (.lookup ty x y ok) (opT m t lc) h.get n k r := by
  obtain ⟨v, hv, e1⟩ := opd_inv e
  obtain ⟨v2, hv2, e2⟩ := opd_inv e1
  obtain ⟨b, rfl, e3⟩ := mapK_inv e2
  obtain ⟨q, rfl, e4⟩ := strK_inv e3
  obtain ⟨o, h1, e5⟩ := oc_inv e4
  obtain ⟨es, rfl, e6⟩ := mapB_inv e5
  obtain ⟨kt, vt, q1, q2, e7⟩ := strKey_inv hE e6
  obtain ⟨te, h2, e8⟩ := oc_inv e7
  rcases rec_t e8 with ⟨_, e9⟩ | ⟨hok, e9⟩
  · exact nn e9
  rcases rec_t e9 with ⟨_, e10⟩ | ⟨hag, e10⟩
  · exact nn e10
  subst hok
  obtain ⟨d, it, z, c1, c2, c3, c4, c5, c6, c7, c8, c9, c10, c11⟩ := (hE _ _ h2).ok
  have hz1 : ∀ (c : C) rest, te.z = c :: rest → ∀ σ, CC σ c z := fun c rest hc σ => by
    have := c8 σ
    have h10 := c10 hag
    have hcells : z.cells = #[z] := by cases z <;> first | rfl | simp [Value.oneCell'] at h10
    rw [hc, hcells] at this
    exact this.1
  have fin : ∀ c : C, k (.c c) [b] [] n = some r → (∀ (σ : Sg) (s : ByteArray) (mm : List (ByteArray × Value)), byl s = q → MR σ es mm → CC σ c ((Sl.mget mm s).getD z)) → Done P (.lookup ty x y false) (opT m t lc) h.get n k r := fun c e H =>
    ⟨_, _, _, n, e, .ofRead h1 (by simp) fun N σ T2 a w b' x' ht hs hb hB => by
      obtain ⟨b2, x2, g1, g2⟩ := evO hv (by simp [Op.operands]) ht hs
      rw [hb] at g1; cases g1
      obtain ⟨s, g3, g4⟩ := evO hv2 (by simp [Op.operands]) ht hs
      obtain ⟨_, en, cl, mm, f1, f2, f3⟩ := hB
      have hgm := run_getMap (P := P) f1
      have hck : (Instr.checkKey en.isEmpty 10000 kt (.string s)).run P w = .ok () w := checkKey_s (dpt := 9999) q2
      refine ⟨_, H σ s mm g4 f3, fun o' q' => ?_⟩
      rcases findKey_s (P := P) (w := w) (k := s) q2 f2 with ⟨j, v, e1, e2, _⟩ | ⟨e1, e2⟩
      · simp [execOp, q', g2, g3, Instr.lookup, run_underlying q1, hgm, hck, e1, e2]
      · simp [execOp, q', g2, g3, Instr.lookup, run_underlying q1, hgm, hck, e1, e2, zeroValue, typeInfo, c2, c5]⟩
  cases hm : mget es q with
  | some c =>
    rw [hm] at e10
    exact fin c e10 fun σ s mm hs hR => by
      subst hs
      rcases mget_R (s := s) hR with ⟨c', v, g1, g2, g3⟩ | ⟨g1, _⟩
      · rw [hm] at g1; cases g1; rw [g2]; exact g3
      · rw [hm] at g1; cases g1
  | none =>
    rw [hm] at e10
    cases hz : te.z with
    | nil => rw [hz] at e10; exact nn e10
    | cons c rest =>
      rw [hz] at e10
      exact fin c e10 fun σ s mm hs hR => by
        subst hs
        rcases mget_R (s := s) hR with ⟨c', v, g1, g2, g3⟩ | ⟨_, g2⟩
        · rw [hm] at g1; cases g1
        · rw [g2]; exact hz1 c rest hz σ
include hE in
theorem opMapUpd_ok {ty : TypeId} {x y z : Operand} (e : opMapUpd ty x y z E m t lc h n k = some r) : Done P (.mapUpdate ty x y z) (opT m t lc) h.get n k r ∧ Done P (.insert ty x y z) (opT m t lc) h.get n k r := by
  obtain ⟨v, hv, e1⟩ := opd_inv e
  obtain ⟨v2, hv2, e2⟩ := opd_inv e1
  obtain ⟨v3, hv3, e3⟩ := opd_inv e2
  obtain ⟨b, rfl, e4⟩ := mapK_inv e3
  obtain ⟨q, rfl, e5⟩ := strK_inv e4
  obtain ⟨u, rfl, e6⟩ := cK_inv e5
  obtain ⟨o, h1, e7⟩ := oc_inv e6
  obtain ⟨es, rfl, e8⟩ := mapB_inv e7
  obtain ⟨kt, vt, q1, q2, e9⟩ := strKey_inv hE e8
  have key : ∀ (o : Op), o.operands.toList = [x, y, z] → (∀ (ρ : Operand → Value) (o' : Oper), o'.op = o → execOp ρ o' = do Instr.mapUpdate ty (ρ x) (ρ y) (ρ z); pure .skip) → Done P o (opT m t lc) h.get n k r := fun o ho hx =>
    ⟨_, _, _, n, e9, .ofWrite h1 (by simp) fun N σ T2 a w b' x' ht hs hb hB hlt => by
      obtain ⟨b2, x2, g1, g2⟩ := evO hv (by simp [ho]) ht hs
      rw [hb] at g1; cases g1
      obtain ⟨s, g3, g4⟩ := evO hv2 (by simp [ho]) ht hs
      have g5 : CC σ u (a.eval z) := evO hv3 (by simp [ho]) ht hs
      obtain ⟨hx0, en, cl, mm, f1, f2, f3⟩ := hB
      have hgm := run_getMap (P := P) f1
      have hck : (Instr.checkKey false 10000 kt (.string s)).run P w = .ok () w := checkKey_s (dpt := 9999) q2
      have hmr := mput_R (s := s) g5 f3
      rw [g4] at hmr
      have fin : ∀ es' c', (Instr.mapUpdate ty (.map (some b')) (.string s) (a.eval z)).run P w = .ok () { w with heap := w.heap.setIfInBounds b' (.map es' c') } → SMap es'.toList (Sl.mput mm s (a.eval z)) →
          ∃ u w', Grew w w' (some b') ∧ CV σ unit u ∧ BR w' σ b' x' (.map (mput es q _)) ∧ ∀ o' : Oper, o'.op = o → (execOp a.eval o').run P w = .ok (.value u) w' ∨ ((execOp a.eval o').run P w = .ok .skip w' ∧ u = undef) := fun es' c' hr hS =>
        ⟨undef, { w with heap := w.heap.setIfInBounds b' (.map es' c') }, ⟨rfl, rfl, rfl, by simp, fun j hj hne => by
          have : b' ≠ j := fun e => hne (by rw [e])
          simp [Array.getElem?_setIfInBounds_ne this]⟩, CV_undef, ⟨hx0, es', c', _, by simp [hlt], hS, hmr⟩, fun o' q' => .inr ⟨by
            rw [hx a.eval o' q', g2, g3]
            simp [hr], rfl⟩⟩
      rcases findKey_s (P := P) (w := w) (k := s) q2 f2 with ⟨j, v, e1, e2, e3, e4⟩ | ⟨e1, e2⟩
      · refine fin (en.modify j fun e => { e with key := .string s, val := a.eval z }) cl ?_ (by simpa using e4 (a.eval z))
        have hkey : ((en[j]?).map (·.key)).getD (.string s) = .string s := by rw [← Array.getElem?_toList, e3]; rfl
        simp [Instr.mapUpdate, run_underlying q1, hgm, hck, e2, hkey, Instr.keyThatStays, Instr.sameBits, bytes_beq, run_setMap _ f1]
      · refine fin (en.push { key := .string s, val := a.eval z, born := cl }) (cl + 1) ?_ (by simpa using smap_push f2 e1)
        simp [Instr.mapUpdate, run_underlying q1, hgm, hck, e2, run_setMap _ f1]⟩
  exact ⟨key _ (by simp [Op.operands]) (fun ρ o' q => by simp [execOp, q]), key _ (by simp [Op.operands]) (fun ρ o' q => by simp [execOp, q])⟩
theorem byl_drop {s : ByteArray} {p c : Nat} {rest : List Nat} (h : (byl s).drop p = c :: rest) : ∃ hp : p < s.size, (s[p]'hp).toNat = c ∧ (byl s).drop (p + 1) = rest := by
  have h0 : (byl s)[p]? = some c := by
    have : ((byl s).drop p)[0]? = some c := by rw [h]; rfl
    rw [List.getElem?_drop] at this
    simpa using this
  obtain ⟨b, h1, h2⟩ := byl_get h0
  have hp : p < s.size := by
    have := (List.getElem?_eq_some_iff.1 h0).1
    rwa [byl_len] at this
  refine ⟨hp, ?_, ?_⟩
  · rw [getElem?_pos s p hp] at h1
    cases h1
    exact h2
  · have : (byl s).drop (p + 1) = ((byl s).drop p).drop 1 := by rw [List.drop_drop]
    rw [this, h]; rfl
theorem opNext_ok {x : Operand} {b : Bool} (e : opNext x b E m t lc h n k = some r) : Done P (.next x b) (opT m t lc) h.get n k r := by
  obtain ⟨hb, _⟩ := iff_inv e
  subst hb
  obtain ⟨_, e0⟩ := iff_inv e
  obtain ⟨v, hv, e1⟩ := opd_inv e0
  obtain ⟨b, o, rfl, e2⟩ := ptrK_inv e1
  obtain ⟨h0, e3⟩ := iff_inv e2
  obtain rfl := beq_iff' h0
  obtain ⟨ob, h1, e4⟩ := oc_inv e3
  cases ob with
  | cells _ _ _ _ _ => exact nn e4
  | map _ => exact nn e4
  | dead => exact nn e4
  | iter s p =>
    cases s with
    | nil =>
      refine ⟨_, _, _, n, e4, .ofRead h1 (by simp) fun N σ T2 a w b' x' ht hs hb hB => ?_⟩
      obtain ⟨b2, x2, g1, g2⟩ := evO hv (by simp [Op.operands]) ht hs
      rw [hb] at g1; cases g1
      obtain ⟨_, s, f1, f2⟩ := hB
      have hp : ¬ p < s.size := by
        have := congrArg List.length f2
        rw [List.length_drop, byl_len] at this
        simp at this; omega
      refine ⟨.tuple #[.bool false], ⟨_, rfl, rfl, trivial⟩, fun o' q => ?_⟩
      simp [execOp, q, g2, Instr.next, getObj, Sem.run, f1, hp]
    | cons c s =>
      obtain ⟨h2, e5⟩ := iff_inv (e4 : iff (Nat.blt c 128) _ = some r)
      rw [fN_eq] at e5
      have h2 := blt_iff h2
      refine ⟨_, _, _, n, e5, .ofWrite h1 (by simp) fun N σ T2 a w b' x' ht hs hb hB hlt => ?_⟩
      obtain ⟨b2, x2, g1, g2⟩ := evO hv (by simp [Op.operands]) ht hs
      rw [hb] at g1; cases g1
      obtain ⟨hx0, u, f1, f2⟩ := hB
      obtain ⟨hp, f3, f4⟩ := byl_drop f2
      have hd := decode_ascii u p hp (by omega)
      rw [f3] at hd
      refine ⟨.tuple #[.bool true, .int .i64 p, .int .i32 c], { w with heap := w.heap.setIfInBounds b' (.stringIter u (p + 1)) }, ⟨rfl, rfl, rfl, by simp, fun j hj hne => by
        have : b' ≠ j := fun e => hne (by rw [e])
        simp [Array.getElem?_setIfInBounds_ne this]⟩, ⟨_, rfl, rfl, rfl, rfl, trivial⟩, ⟨hx0, u, by simp [hlt], f4⟩, fun o' q => .inl ?_⟩
      simp [execOp, q, g2, Instr.next, getObj, setObj, Sem.run, f1, hp, hd, goInt]
end
end Go.D
namespace Go.D
set_option linter.unusedVariables false
set_option linter.unusedSimpArgs false
open Go.RowKit Go.Sl
section
variable {α : Type} {P : Program} {E : Env} {m : Nat} {t : Tr V} {lc : Ls} {h : H} {n : Nat} {k : KO α} {r : α}
variable (hE : ∀ t ti, E.tt.get t = some ti → TIok P t ti)
theorem kindK_inv {d : Ds} {u i : Option α} {r : α} (e : kindK d u i = some r) : (d = .int .u8 ∧ u = some r) ∨ (d = .int .i32 ∧ i = some r) := by
  cases d <;> first | exact nn e | skip
  rename_i kd
  cases kd <;> first | exact nn e | exact .inl ⟨rfl, e⟩ | exact .inr ⟨rfl, e⟩
theorem isStr_inv {d : Ds} {k : Option α} {r : α} (e : isStr d k = some r) : d = .str ∧ k = some r := by
  cases d <;> first | exact nn e | exact ⟨rfl, e⟩
theorem ascii_iff : ∀ {l : List Nat}, ascii l = true → ∀ c ∈ l, c < 128
  | [], _, _, h => by simp at h
  | a :: l, h, c, hc => by
    have h' : (Bool.rec false (ascii l) (Nat.blt a 128) : Bool) = true := h
    cases q : Nat.blt a 128 with
    | false => rw [q] at h'; exact absurd h' (by simp)
    | true =>
      rw [q] at h'
      rcases List.mem_cons.1 hc with rfl | hc
      · exact blt_iff q
      · exact ascii_iff h' c hc
theorem ints_inv {kd : IntKind} : ∀ {l : List (List C)} {K : List Nat → Option α} {r : α}, ints kd l K = some r → ∃ ns : List Nat, K ns = some r ∧ ns.length = l.length ∧ (∀ c ∈ ns, c < 128) ∧ ∀ (j : Nat) (c : Nat), ns[j]? = some c → ∃ row rest, l[j]? = some row ∧ row = C.i kd (c : Int) :: rest
  | [], K, r, e => ⟨[], e, rfl, fun _ h => by simp at h, fun j c h => by simp at h⟩
  | [] :: l, K, r, e => nn e
  | (x :: row) :: l, K, r, e => by
    obtain ⟨k', i, hx, e1⟩ := intK_inv (e : intK (.c x) _ = some r)
    cases hx
    obtain ⟨hk, e2⟩ := iff_inv e1
    have hk := of_decide_eq_true hk
    subst hk
    cases i with
    | negSucc _ => exact nn e2
    | ofNat c =>
      obtain ⟨h1, e3⟩ := iff_inv (e2 : iff (Nat.blt c 128) _ = some r)
      obtain ⟨ns, e4, h2, h3, h4⟩ := ints_inv (e3 : ints k' l (fun l => K (c :: l)) = some r)
      refine ⟨c :: ns, e4, by simp [h2], fun d hd => ?_, fun j d hj => ?_⟩
      · rcases List.mem_cons.1 hd with rfl | hd
        · exact blt_iff h1
        · exact h3 d hd
      · cases j with
        | zero => cases hj; exact ⟨_, row, rfl, rfl⟩
        | succ j => simpa using h4 j d (by simpa using hj)
theorem runesFrom_ascii {s : ByteArray} (hA : ∀ c ∈ byl s, c < 128) : ∀ (m i : Nat) (acc : Array Value), (byl s).length ≤ m + i → Conv.runesFrom s m i acc = acc ++ (((byl s).drop i).map (fun c : Nat => Value.int .i32 (c : Int))).toArray
  | 0, i, acc, h => by
    rw [List.drop_eq_nil_of_le (by omega)]
    simp [Conv.runesFrom]
  | m + 1, i, acc, h => by
    unfold Conv.runesFrom
    by_cases hi : i < s.size
    · cases q : (byl s).drop i with
      | nil =>
        have := congrArg List.length q
        rw [List.length_drop, byl_len] at this
        simp at this; omega
      | cons c rest =>
        obtain ⟨hp, f1, f2⟩ := byl_drop q
        have hc : c < 128 := hA c (List.mem_of_mem_drop (i := i) (by rw [q]; simp))
        have hd := decode_ascii s i hp (by omega)
        rw [f1] at hd
        simp only [hi, if_true, hd]
        rw [runesFrom_ascii hA m (i + 1) _ (by omega), f2]
        apply Array.ext'
        simp
    · rw [if_neg hi, List.drop_eq_nil_of_le (by rw [byl_len]; omega)]
      simp
theorem encode_ascii {c : Nat} (h : c < 128) : Utf8.encode (c : Int) = ⟨#[UInt8.ofNat c]⟩ := by
  have hv : Utf8.valid (c : Int) = true := by
    have h1 : (0 : Int) ≤ (c : Int) := by omega
    have h2 : (c : Int) < 55296 := by omega
    simp [Utf8.valid, h1, h2]
  simp [Utf8.encode, hv, h]
theorem byl_one {c : Nat} (h : c < 128) : byl ⟨#[UInt8.ofNat c]⟩ = [c] := by
  simp [byl]
  omega
theorem runesBytes_ascii : ∀ (ns : List Nat) (s : ByteArray), (∀ c ∈ ns, c < 128) → byl ((ns.map fun c : Nat => (c : Int)).foldl (fun r n => r ++ Utf8.encode n) s) = byl s ++ ns
  | [], s, _ => by simp
  | c :: ns, s, h => by
    simp only [List.map_cons, List.foldl_cons]
    rw [runesBytes_ascii ns _ (fun d hd => h d (by simp [hd])), byl_append, encode_ascii (h c (by simp)), byl_one (h c (by simp))]
    simp
theorem byl_mk {ns : List Nat} (h : ∀ c ∈ ns, c < 256) : byl ⟨(ns.map UInt8.ofNat).toArray⟩ = ns := by
  unfold byl
  simp only [List.map_map]
  conv => rhs; rw [← List.map_id ns]
  apply List.map_congr_left
  intro c hc
  have := h c hc
  simp
  omega
theorem newRow_BR {w' : World} {σ : Sg} {b cap : Nat} {kd : IntKind} {s : List Nat} {c : Tr (List C)} {el ty : TypeId} {fr : Nat × Nat} {z : Value} (hb : w'.heap[b]? = some (.cells ((s.map fun c : Nat => Value.int kd (c : Int)).toArray ++ Array.replicate (cap - s.length) z) ty fr))
    (_hcap : s.length ≤ cap) (hf : fr = (0, 0) ∨ ((s.map fun c : Nat => Value.int kd (c : Int)).toArray ++ Array.replicate (cap - s.length) z).size ≤ fr.1) (hc : ∀ j, c.get j = if 0 ≤ j ∧ j < 0 + (s.map fun c => [C.i kd (.ofNat c)]).length then (s.map fun c => [C.i kd (.ofNat c)])[j - 0]? else Tr.e.get j) :
    BR w' σ b (cap - s.length) (.cells 1 c s.length el false) := by
  refine BR.ofCells hb hf (by simp) (fun h => by cases h) (fun q row hq hr => ?_)
  rw [hc, if_pos ⟨Nat.zero_le _, by simpa using hq⟩, Nat.sub_zero, List.getElem?_map, List.getElem?_eq_getElem hq] at hr
  cases hr
  refine ⟨rfl, [.int kd (s[q] : Int)], ⟨rfl, trivial⟩, fun r v hv => ?_⟩
  cases r with
  | succ r => simp at hv
  | zero =>
    cases hv
    rw [Nat.mul_one, Nat.add_zero, Array.getElem?_append_left (by simpa using hq)]
    simp [hq]
include hE in
theorem opConv_ok {src dst : TypeId} {x : Operand} (e : opConv src dst x E m t lc h n k = some r) : Done P (.convert src dst x) (opT m t lc) h.get n k r := by
  obtain ⟨v, hv, e1⟩ := opd_inv e
  obtain ⟨ts, hs0, e2⟩ := oc_inv e1
  obtain ⟨td, hd0, e3⟩ := oc_inv e2
  obtain ⟨x0, rfl, e4⟩ := cK_inv e3
  clear e e1 e2 e3
  obtain ⟨sd, si, sz, s1, _, _, _, _, _, sD, _⟩ := (hE _ _ hs0).ok
  obtain ⟨dd, it, z, q1, q2, q3, q4, q5, q6, q7, _⟩ := (hE _ _ hd0).ok
  have hm : x ∈ (Op.convert src dst x).operands.toList := by simp [Op.operands]
  revert e4 q7
  cases td.d <;> intro e4 q7 <;> first | exact nn e4 | skip
  · -- to an integer
    rename_i kd
    have q7 : dd = .int kd := q7
    subst q7
    obtain ⟨k0, i, hx, e5⟩ := intK_inv e4
    cases hx
    rw [wrapK_eq] at e5
    refine ⟨_, [], [], n, e5, .ofPure fun N σ T2 a w ht hs => ?_⟩
    have g1 : a.eval x = .int k0 i := evO hv hm ht hs
    exact ⟨.int kd (kd.wrap i), rfl, fun o' q => by simp [execOp, q, g1, convert, run_underlying s1, run_underlying q1, Conv.intToInt]⟩
  · -- to a text
    have q7 : dd = .string := q7
    subst q7
    have empty : ∀ el, P.underlying src = some (.slice el) → (P.underlying el = some (.int .u8) ∨ P.underlying el = some (.int .i32)) → ∀ (ao : Option Addr) (cp : Nat) (w : World), (convert src dst (.slice ao 0 cp)).run P w = .ok (.string .empty) w := fun el hsl hel ao cp w => by
      rcases hel with hel | hel
      · rw [run_convert_bytes_string w src dst el ao 0 cp hsl hel q1]
        cases ao <;> simp [Conv.bytesToString, loadCells, loadCellsFrom]
      · rw [run_convert_runes_string w src dst el ao 0 cp hsl hel q1]
        cases ao <;> simp [Conv.runesToString, loadCells, loadCellsFrom]
    have hemp : byl .empty = [] := rfl
    cases x0 with
    | b _ => exact nn e4
    | pn => exact nn e4
    | p _ _ => exact nn e4
    | mn => exact nn e4
    | m _ => exact nn e4
    | nf => exact nn e4
    | fn _ _ _ => exact nn e4
    | i k0 i =>
      obtain ⟨kd, c, hx, e5⟩ := natK_inv (e4 : natK (.c (.i k0 i)) _ = some r)
      cases hx
      obtain ⟨h1, e6⟩ := iff_inv e5
      have h1 := blt_iff h1
      refine ⟨_, [], [], n, e6, .ofPure fun N σ T2 a w ht hs => ?_⟩
      have g1 : a.eval x = .int k0 (c : Int) := evO hv hm ht hs
      exact ⟨.string (Utf8.encode (c : Int)), ⟨_, rfl, by rw [encode_ascii h1, byl_one h1]⟩, fun o' q => by simp [execOp, q, g1, convert, run_underlying s1, run_underlying q1, Conv.intToString]⟩
    | s s =>
      refine ⟨_, [], [], n, e4, .ofPure fun N σ T2 a w ht hs => ?_⟩
      obtain ⟨b, g1, g2⟩ := evO hv hm ht hs
      exact ⟨.string b, ⟨b, rfl, g2⟩, fun o' q => by simp [execOp, q, g1, convert, run_underlying s1, run_underlying q1]⟩
    | sn =>
      obtain ⟨el, i, z', c1, c2, c3, c4, zl, c5, c6, e5⟩ := elemK_inv hE (e4 : elemK E src _ = some r)
      obtain ⟨te, h1, e6⟩ := oc_inv e5
      obtain ⟨d', it', z'', f1, f2, f3, f4, f5, f6, f7, _⟩ := (hE _ _ h1).ok
      have fin : P.underlying el = some (.int .u8) ∨ P.underlying el = some (.int .i32) → k (.c (.s [])) [] [] n = some r → Done P (.convert src dst x) (opT m t lc) h.get n k r := fun hel e7 =>
        ⟨_, [], [], n, e7, .ofPure fun N σ T2 a w ht hs => by
          have g1 : a.eval x = .slice none 0 0 := evO hv hm ht hs
          exact ⟨.string .empty, ⟨_, rfl, hemp⟩, fun o' q => by simp [execOp, q, g1, empty el c1 hel]⟩⟩
      rcases kindK_inv e6 with ⟨hd, e7⟩ | ⟨hd, e7⟩ <;> rw [hd] at f7
      · have f7 : d' = .int .u8 := f7
        subst f7
        exact fin (.inl f1) e7
      · have f7 : d' = .int .i32 := f7
        subst f7
        exact fin (.inr f1) e7
    | sl b o len cap =>
      obtain ⟨el, i, z', c1, c2, c3, c4, zl, c5, c6, e5⟩ := elemK_inv hE (e4 : elemK E src _ = some r)
      obtain ⟨te, h1, e6⟩ := oc_inv e5
      obtain ⟨d', it', z'', f1, f2, f3, f4, f5, f6, f7, _⟩ := (hE _ _ h1).ok
      cases len with
      | zero =>
        have fin : P.underlying el = some (.int .u8) ∨ P.underlying el = some (.int .i32) → k (.c (.s [])) [] [] n = some r → Done P (.convert src dst x) (opT m t lc) h.get n k r := fun hel e7 =>
          ⟨_, [], [], n, e7, .ofPure fun N σ T2 a w ht hs => by
            obtain ⟨b', y, g1, g2 | ⟨_, _, o2, g2⟩⟩ := evO hv hm ht hs
            · exact ⟨.string .empty, ⟨_, rfl, hemp⟩, fun o' q => by simp [execOp, q, g2, empty el c1 hel]⟩
            · exact ⟨.string .empty, ⟨_, rfl, hemp⟩, fun o' q => by simp [execOp, q, g2, empty el c1 hel]⟩⟩
        rcases kindK_inv (e6 : kindK te.d (k (.c (.s [])) [] [] n) (k (.c (.s [])) [] [] n) = some r) with ⟨hd, e7⟩ | ⟨hd, e7⟩ <;> rw [hd] at f7
        · have f7 : d' = .int .u8 := f7
          subst f7
          exact fin (.inl f1) e7
        · have f7 : d' = .int .i32 := f7
          subst f7
          exact fin (.inr f1) e7
      | succ len' =>
        obtain ⟨ob, h2, e7⟩ := oc_inv (e6 : oc (h.get b) _ = some r)
        obtain ⟨kk, c, bl, be, bx, rfl, e8⟩ := cellsK_inv e7
        obtain ⟨h3, e9⟩ := iff_inv e8
        obtain ⟨h4, e10⟩ := iff_inv e9
        obtain rfl := beq_iff' h3
        have h4 := ble_iff h4
        obtain ⟨l, h5, h6, e11⟩ := rows_inv _ _ _ _ _ e10
        have cells : ∀ (kd : IntKind) (ns : List Nat), ns.length = l.length → (∀ (j : Nat) (c : Nat), ns[j]? = some c → ∃ row rest, l[j]? = some row ∧ row = C.i kd (c : Int) :: rest) → ∀ (w : World) (σ : Sg) (b' x' : Nat), BR w σ b' x' (.cells 1 c bl be bx) → ∀ (j : Nat) (c : Nat), ns[j]? = some c → w.cell? ⟨b', o + j, none⟩ = some (.int kd (c : Int)) :=
          fun kd ns hl hns w σ b' x' hB j cc hj => by
            obtain ⟨row, rest, g1, g2⟩ := hns j cc hj
            have hjl : j < len' + 1 := by
              have := (List.getElem?_eq_some_iff.1 g1).1
              omega
            rw [h6 j hjl] at g1
            obtain ⟨_, _, hB⟩ := hB
            have h4 : o + (len' + 1) ≤ bl := h4
            obtain ⟨_, vs, g3, g4⟩ := hB _ row (by omega) g1
            subst g2
            cases vs with
            | nil => exact g3.elim
            | cons v vs =>
              have := g4 0 v rfl
              rw [g3.1] at this
              simpa using this
        rcases kindK_inv e11 with ⟨hd, e12⟩ | ⟨hd, e12⟩ <;> rw [hd] at f7
        · have f7 : d' = .int .u8 := f7
          subst f7
          obtain ⟨ns, e13, g1, g2, g3⟩ := ints_inv e12
          refine ⟨_, _, _, n, e13, .ofRead h2 (by simp) fun N σ T2 a w b' x' ht hs hb hB => ?_⟩
          obtain ⟨b2, y, g5, g6 | ⟨h, _⟩⟩ := evO hv hm ht hs
          · rw [hb] at g5; cases g5
            have hc := cells .u8 ns g1 g3 w σ b' x' hB
            have hlen : len' + 1 = (ns.map UInt8.ofNat).length := by simp; omega
            have hr := run_convert_bytes_back (P := P) w src dst el ⟨b', o, none⟩ (cap + x') (ns.map UInt8.ofNat) c1 f1 q1 (fun j hj => by
              have hj' : j < ns.length := by simpa using hj
              rw [Sl.add_lit, hc j ns[j] (by simp)]
              have : ns[j] < 128 := g2 _ (List.getElem_mem hj')
              congr 2
              simp
              omega)
            rw [← hlen] at hr
            exact ⟨_, ⟨_, rfl, byl_mk (fun c hc => by have := g2 c hc; omega)⟩, fun o' q => by simp [execOp, q, g6, hr]⟩
          · cases h
        · have f7 : d' = .int .i32 := f7
          subst f7
          obtain ⟨ns, e13, g1, g2, g3⟩ := ints_inv e12
          refine ⟨_, _, _, n, e13, .ofRead h2 (by simp) fun N σ T2 a w b' x' ht hs hb hB => ?_⟩
          obtain ⟨b2, y, g5, g6 | ⟨h, _⟩⟩ := evO hv hm ht hs
          · rw [hb] at g5; cases g5
            have hc := cells .i32 ns g1 g3 w σ b' x' hB
            have hlen : len' + 1 = ns.length := by omega
            have hr := run_convert_runes (P := P) w src dst el ⟨b', o, none⟩ (len' + 1) (cap + x') (ns.map fun c : Nat => (c : Int)) (by simp; omega) c1 f1 q1 (fun j hj => by
              have hj' : j < ns.length := by simpa using hj
              rw [Sl.add_lit, hc j ns[j] (by simp)]
              simp [List.getD, hj'])
            refine ⟨_, ⟨_, rfl, ?_⟩, fun o' q => by simp [execOp, q, g6, hr]; rfl⟩
            rw [List.take_of_length_le (by simp; omega)]
            unfold runesBytes
            rw [runesBytes_ascii ns _ g2]
            rfl
          · cases h
  · -- to a slice
    rename_i el
    have q7 : dd = .slice el := q7
    subst q7
    obtain ⟨hts, e4'⟩ := isStr_inv e4
    rw [hts] at sD
    have s2 : P.underlying src = some .string := by
      have sD : sd = .string := sD
      rw [s1, sD]
    obtain ⟨te, h1, e5⟩ := oc_inv e4'
    obtain ⟨d', it', z'', f1, f2, f3, f4, f5, f6, f7, _⟩ := (hE _ _ h1).ok
    obtain ⟨s, hx, e6⟩ := strK_inv e5
    cases hx
    rw [lenN_eq] at e6
    obtain ⟨h2, e7⟩ := iff_inv e6
    have h2 := ble_iff h2
    rcases kindK_inv e7 with ⟨hd, e8⟩ | ⟨hd, e8⟩ <;> rw [hd] at f7
    · have f7 : d' = .int .u8 := f7
      subst f7
      rw [bytesC_eq] at e8
      obtain ⟨c, h3, e9⟩ := putRows_inv _ _ _ _ _ e8
      refine ⟨_, [], _, n + 1, e9, .ofNew fun N σ T2 a w ht hs hn => ?_⟩
      obtain ⟨b, g1, g2⟩ := evO hv hm ht hs
      have hbl : s.length = b.size := by rw [← g2, byl_len]
      have hge := grownCap_ge w b.size 0 el
      have hrow : bytesRow b (grownCap w b.size 0 el) = (s.map fun c : Nat => Value.int .u8 (c : Int)).toArray ++ Array.replicate (grownCap w b.size 0 el - s.length) (.int .u8 0) := by
        unfold bytesRow
        rw [hbl, ← g2]
        congr 1
        apply Array.ext'
        simp [byl]
      have hrun := run_bytes_of_string (P := P) w src dst el b s2 q1 f1
      rw [hrow] at hrun
      refine ⟨_, _, w.heap.size, grownCap w b.size 0 el - s.length, grew_drew w (.cells ((s.map fun c : Nat => Value.int .u8 (c : Int)).toArray ++ Array.replicate (grownCap w b.size 0 el - s.length) (Value.int .u8 0)) el
          (((s.map fun c : Nat => Value.int .u8 (c : Int)).toArray ++ Array.replicate (grownCap w b.size 0 el - s.length) (Value.int .u8 0)).size, ((s.map fun c : Nat => Value.int .u8 (c : Int)).toArray ++ Array.replicate (grownCap w b.size 0 el - s.length) (Value.int .u8 0)).size + 1)), Nat.le_refl _, by simp, ⟨_, _, sgSet_at, .inl rfl⟩,
        newRow_BR (heap_alloc_new w.drew _) (by omega) (.inr (Nat.le_refl _)) h3, fun o' q => ?_⟩
      have hcap : b.size + (grownCap w b.size 0 el - b.size) = grownCap w b.size 0 el := by omega
      simp only [execOp, q, g1, Sem.run_bind, hrun, Result.andThen_ok, Sem.run_pure, hcap, hbl]
    · have f7 : d' = .int .i32 := f7
      subst f7
      obtain ⟨hA, e9⟩ := iff_inv e8
      have hA := ascii_iff hA
      rw [bytesC_eq] at e9
      obtain ⟨c, h3, e10⟩ := putRows_inv _ _ _ _ _ e9
      refine ⟨_, [], _, n + 1, e10, .ofNew fun N σ T2 a w ht hs hn => ?_⟩
      obtain ⟨b, g1, g2⟩ := evO hv hm ht hs
      have hbl : s.length = b.size := by rw [← g2, byl_len]
      have hrunes : Conv.runesFrom b b.size 0 #[] = (s.map fun c : Nat => Value.int .i32 (c : Int)).toArray := by
        rw [runesFrom_ascii (by rw [g2]; exact hA) b.size 0 #[] (by rw [byl_len]; omega), g2]
        simp
      have hrun := run_runes_of_string (P := P) w src dst el b s2 q1 f1 (by rw [hrunes]; simp; have : s.length ≤ 65536 := h2; omega)
      rw [hrunes] at hrun
      have hz : ((s.map fun c : Nat => Value.int .i32 (c : Int)).toArray).size = s.length := by simp
      rw [hz] at hrun
      have hge := grownCap_ge w s.length 0 el
      refine ⟨_, _, w.heap.size, grownCap w s.length 0 el - s.length, grew_drew w (.cells ((s.map fun c : Nat => Value.int .i32 (c : Int)).toArray ++ Array.replicate (grownCap w s.length 0 el - s.length) (Value.int .i32 0)) el), Nat.le_refl _, by simp, ⟨_, _, sgSet_at, .inl rfl⟩,
        newRow_BR (heap_alloc_new w.drew _) (by omega) (.inl rfl) h3, fun o' q => ?_⟩
      have hcap : s.length + (grownCap w s.length 0 el - s.length) = grownCap w s.length 0 el := by omega
      simp only [execOp, q, g1, Sem.run_bind, hrun, Result.andThen_ok, Sem.run_pure, hcap]
end
end Go.D
namespace Go.D
set_option linter.unusedVariables false
set_option linter.unusedSimpArgs false
open Go.RowKit Go.Sl
section
variable {α : Type} {P : Program} {E : Env} {m : Nat} {t : Tr V} {lc : Ls} {h : H} {n : Nat} {k : KO α} {r : α}
variable (hE : ∀ t ti, E.tt.get t = some ti → TIok P t ti)
theorem cells_list {w : World} {b o m : Nat} (h : ∀ j, j < m → (w.cell? ⟨b, o + j, none⟩).isSome = true) : ∃ us : List Value, us.length = m ∧ ∀ j u, us[j]? = some u ↔ (j < m ∧ w.cell? ⟨b, o + j, none⟩ = some u) := by
  refine ⟨(List.range m).map fun j => (w.cell? ⟨b, o + j, none⟩).getD undef, by simp, fun j u => ?_⟩
  by_cases hj : j < m
  · obtain ⟨v, hv⟩ := Option.isSome_iff_exists.1 (h j hj)
    simp [hj, hv]
  · simp [hj]
theorem rows_cells {w : World} {σ : Sg} {b x k len q0 m : Nat} {c : Tr (List C)} {e : TypeId} {ex : Bool} {l : List (List C)} (H : BR w σ b x (.cells k c len e ex)) (hq : q0 + m ≤ len) (hl : l.length = m) (hc : ∀ j, j < m → l[j]? = c.get (q0 + j)) :
    ∃ us : List Value, us.length = m * k ∧ (∀ j u, us[j]? = some u → w.cell? ⟨b, q0 * k + j, none⟩ = some u) ∧ RC σ k l us := by
  obtain ⟨_, hcells, hrows⟩ := H
  have hmk : q0 * k + m * k ≤ (len + x) * k := by
    rw [← Nat.add_mul]; exact Nat.mul_le_mul_right _ (by omega)
  obtain ⟨us, h1, h2⟩ := cells_list (w := w) (b := b) (o := q0 * k) (m := m * k) (fun j hj => (hcells _ (by omega)).1)
  have hrow : ∀ q row, l[q]? = some row → row.length = k ∧ ∃ vs, CL σ row vs ∧ ∀ r v, vs[r]? = some v → us[q * k + r]? = some v := fun q row hr => by
    have hqm : q < m := by
      have := (List.getElem?_eq_some_iff.1 hr).1
      omega
    rw [hc q hqm] at hr
    obtain ⟨g1, vs, g2, g3⟩ := hrows _ row (by omega) hr
    refine ⟨g1, vs, g2, fun r v hv => ?_⟩
    have hrk : r < k := by
      have := (List.getElem?_eq_some_iff.1 hv).1
      have := g2.len
      omega
    have : (q + 1) * k ≤ m * k := Nat.mul_le_mul_right _ hqm
    rw [Nat.succ_mul] at this
    refine (h2 _ v).2 ⟨by omega, ?_⟩
    have := g3 r v hv
    rwa [Nat.add_mul, Nat.add_assoc] at this
  refine ⟨us, h1, fun j u hj => ((h2 j u).1 hj).2, by rw [h1, hl], fun u hu => ?_, hrow⟩
  obtain ⟨j, hj, rfl⟩ := List.mem_iff_getElem.1 hu
  have hk : 0 < k := by
    rcases Nat.eq_zero_or_pos k with hk | hk
    · rw [hk, Nat.mul_zero] at h1; omega
    · exact hk
  have hjq : j / k < m := (Nat.div_lt_iff_lt_mul hk).2 (by omega)
  have hml : j / k < l.length := by omega
  obtain ⟨g1, vs, g2, g3⟩ := hrow (j / k) l[j / k] (List.getElem?_eq_getElem hml)
  have hmod : j % k < k := Nat.mod_lt _ hk
  have hvl : j % k < vs.length := by rw [g2.len, g1]; exact hmod
  have hjj : j / k * k + j % k = j := by rw [Nat.mul_comm]; exact Nat.div_add_mod j k
  have := g3 (j % k) vs[j % k] (List.getElem?_eq_getElem hvl)
  rw [hjj, List.getElem?_eq_getElem hj] at this
  have this := Option.some.inj this
  rw [this]
  exact g2.one _ (List.getElem_mem hvl)
def SrcR (P : Program) (tx : TypeId) (sz : Nat) (y : V) (l : List (List C)) (ml : Nat) (rs : List Nat) (h : Nat → Option AO) : Prop :=
  l.length = ml ∧ (rs = [] ∨ ∃ b ob, rs = [b] ∧ h b = some ob ∧ ob ≠ .dead) ∧
  ∀ (σ : Sg) (u : Value) (w : World), CV σ y u → (∀ b ob, rs = [b] → h b = some ob → ∃ b' x, σ b = some (b', x) ∧ BR w σ b' x ob) → ∃ news, Src P sz tx u ml news w ∧ RC σ sz l news
include hE in
theorem srcK_inv {tx : TypeId} {tj : TI} {sz : Nat} {y : V} {K : List (List C) → Nat → List Nat → Option α} {r : α} (hx : E.tt.get tx = some tj) (e : srcK h sz y tj.d K = some r) : ∃ l ml rs, SrcR P tx sz y l ml rs h.get ∧ K l ml rs = some r := by
  obtain ⟨d, it, z, q1, q2, q3, q4, q5, q6, q7, _⟩ := (hE _ _ hx).ok
  revert e q7
  cases tj.d <;> intro e q7 <;> first | exact nn e | skip
  · have q7 : d = .string := q7
    subst q7
    obtain ⟨s, rfl, e1⟩ := strK_inv e
    rw [bytesC_eq, lenN_eq] at e1
    obtain ⟨h1, e2⟩ := iff_inv e1
    obtain rfl := beq_iff' h1
    refine ⟨_, _, _, ⟨by simp, .inl rfl, fun σ u w hu _ => ?_⟩, e2⟩
    obtain ⟨b, rfl, g2⟩ := hu
    have hbl : s.length = b.size := by rw [← g2, byl_len]
    have hS := Src.ofString (P := P) w q1 b
    rw [← hbl] at hS
    refine ⟨byteCells b, hS, by simp [byteCells_length, hbl], hS.one, fun q row hr => ?_⟩
    rw [List.getElem?_map] at hr
    cases hq : s[q]? with
    | none => rw [hq] at hr; cases hr
    | some c =>
      rw [hq] at hr
      cases hr
      refine ⟨rfl, [.int .u8 (c : Int)], ⟨rfl, trivial⟩, fun r v hv => ?_⟩
      cases r with
      | succ r => simp at hv
      | zero =>
        cases hv
        rw [Nat.mul_one, Nat.add_zero]
        rw [← g2] at hq
        unfold byl at hq
        rw [List.getElem?_map] at hq
        unfold byteCells
        rw [List.getElem?_map]
        cases hb : b.data.toList[q]? with
        | none => rw [hb] at hq; cases hq
        | some u => rw [hb] at hq; cases hq; rfl
  · rename_i el
    have q7 : d = .slice el := q7
    subst q7
    have nil : ∀ σ : Sg, RC σ sz [] [] := fun σ => ⟨by simp, fun _ h => by simp at h, fun q row h => by simp at h⟩
    rcases slK_inv e with ⟨rfl, e1⟩ | ⟨b, o, len, cap, rfl, e1⟩
    · refine ⟨[], 0, [], ⟨rfl, .inl rfl, fun σ u w hu _ => ?_⟩, e1⟩
      have hu : u = .slice none 0 0 := hu
      subst hu
      exact ⟨[], Src.ofNil w q1 0, nil σ⟩
    · cases len with
      | zero =>
        refine ⟨[], 0, [], ⟨rfl, .inl rfl, fun σ u w hu _ => ?_⟩, e1⟩
        obtain ⟨b', y, g1, rfl | ⟨_, _, o2, rfl⟩⟩ := hu
        · exact ⟨[], Src.ofSlice w q1 _ 0 _ [] (by simp) (fun j u h => by simp at h) (fun u h => by simp at h), nil σ⟩
        · exact ⟨[], Src.ofSlice w q1 _ 0 _ [] (by simp) (fun j u h => by simp at h) (fun u h => by simp at h), nil σ⟩
      | succ len =>
        obtain ⟨ob, h1, e2⟩ := oc_inv (e1 : oc (h.get b) _ = some r)
        obtain ⟨kk, c, bl, be, bx, rfl, e3⟩ := cellsK_inv e2
        obtain ⟨h2, e4⟩ := iff_inv e3
        obtain ⟨h3, e5⟩ := iff_inv e4
        obtain ⟨h4, e6⟩ := iff_inv e5
        obtain rfl := beq_iff' h2
        have h3 : o % kk = 0 := beq_iff' h3
        have h4 : o / kk + (len + 1) ≤ bl := ble_iff h4
        obtain ⟨l, h5, h6, e7⟩ := rows_inv _ _ _ _ _ e6
        refine ⟨l, len + 1, [b], ⟨h5, .inr ⟨b, _, rfl, h1, by simp⟩, fun σ u w hu hb => ?_⟩, e7⟩
        obtain ⟨b', x', g0, hB⟩ := hb b _ rfl h1
        obtain ⟨b2, y, g1, rfl | ⟨h, _⟩⟩ := hu
        · rw [g0] at g1; cases g1
          have ho : o / kk * kk = o := by
            have := Nat.div_add_mod o kk
            rw [h3, Nat.mul_comm] at this
            omega
          obtain ⟨us, f1, f2, f3⟩ := rows_cells hB h4 h5 h6
          rw [ho] at f2
          exact ⟨us, Src.ofSlice w q1 _ (len + 1) _ us f1 (fun j u hj => by rw [Sl.add_lit]; exact f2 j u hj) f3.2.1, f3⟩
        · cases h
end
end Go.D
namespace Go.D
set_option linter.unusedVariables false
set_option linter.unusedSimpArgs false
open Go.RowKit Go.Sl
theorem HR.move {w0 w w' : World} {Φ : Fz} {σ : Sg} {h : Nat → Option AO} {n b b' x x' : Nat} {ob ao : AO} (H : HR w0 Φ σ h w) (hb : h b = some ob) (hd : ob ≠ .dead) (hs : σ b = some (b', x)) (hn : σ n = none) (hg : Grew w w' (some b')) (ho : BR w' (sgSet σ n b' x') b' x' ao) :
    HR w0 Φ (sgSet σ n b' x') (set1 (set1 h b .dead) n ao) w' := by
  obtain ⟨b0, x0, h1, h2, h3, _⟩ := H.live b ob hb hd
  rw [hs] at h1
  cases h1
  have hbn : b ≠ n := fun e => by rw [e, hn] at hs; cases hs
  have old : ∀ a p, set1 h b .dead a = some p → p ≠ .dead → a ≠ b ∧ h a = some p := fun a p ha hp => by
    unfold set1 at ha
    split at ha
    · cases ha; exact absurd rfl hp
    · rename_i e; exact ⟨e, ha⟩
  refine ⟨nilKept H.cw hg h2, fun a p ha hp => ?_, fun a a' p p' c y y' ha ha' hp hp' hc hc' => ?_⟩
  · rw [set1] at ha
    split at ha
    · rename_i e; subst e; cases ha
      exact ⟨b', x', sgSet_at, h2, Nat.lt_of_lt_of_le h3 hg.size, ho⟩
    · obtain ⟨e, ha⟩ := old a p ha hp
      obtain ⟨c, y, g1, g2, g3, g4⟩ := H.live a p ha hp
      refine ⟨c, y, sgSet_le hn _ _ g1, g2, Nat.lt_of_lt_of_le g3 hg.size, (g4.same (hg.block c g3 fun q => e ?_)).le (sgSet_le hn)⟩
      cases q
      exact H.sep a b p ob b' y x ha hb hp hd g1 hs
  · rw [set1] at ha ha'
    by_cases e : a = n <;> by_cases e' : a' = n
    · rw [e, e']
    · rw [if_neg e'] at ha'
      obtain ⟨f1, ha'⟩ := old a' p' ha' hp'
      subst e
      rw [sgSet_at] at hc
      cases hc
      simp only [sgSet, e', if_false] at hc'
      exact absurd (H.sep a' b p' ob _ y' x ha' hb hp' hd hc' hs) f1
    · rw [if_neg e] at ha
      obtain ⟨f1, ha⟩ := old a p ha hp
      subst e'
      rw [sgSet_at] at hc'
      cases hc'
      simp only [sgSet, e, if_false] at hc
      exact absurd (H.sep a b p ob _ y x ha hb hp hd hc hs) f1
    · rw [if_neg e] at ha
      rw [if_neg e'] at ha'
      obtain ⟨_, ha⟩ := old a p ha hp
      obtain ⟨_, ha'⟩ := old a' p' ha' hp'
      simp only [sgSet, e, e', if_false] at hc hc'
      exact H.sep a a' p p' c y y' ha ha' hp hp' hc hc'
section
variable {α : Type} {P : Program} {E : Env} {m : Nat} {t : Tr V} {lc : Ls} {h : H} {n : Nat} {k : KO α} {r : α}
theorem src_use {tx : TypeId} {sz : Nat} {y : V} {l : List (List C)} {ml : Nat} {rs RS : List Nat} {h h2 : Nat → Option AO} {w0 w : World} {Φ : Fz} {σ : Sg} {u : Value} (hS : SrcR P tx sz y l ml rs h) (hR : ∀ b ∈ rs, b ∈ RS) (h1 : ∀ b ∈ RS, h2 b = h b) (H : HR w0 Φ σ h2 w) (hu : CV σ y u) :
    ∃ news, Src P sz tx u ml news w ∧ RC σ sz l news := by
  obtain ⟨_, hrs, hS⟩ := hS
  refine hS σ u w hu fun b ob hb hob => ?_
  rcases hrs with e | ⟨b0, ob0, e, g1, g2⟩
  · rw [e] at hb; cases hb
  · rw [e] at hb; cases hb
    rw [hob] at g1; cases g1
    obtain ⟨b', x, f1, _, _, f4⟩ := H.live b ob ((h1 b (hR b (by rw [e]; simp))).trans hob) g2
    exact ⟨b', x, f1, f4⟩
theorem grown_BR {w' : World} {σ : Sg} {b sz len ml need cap : Nat} {l : List (List C)} {olds news : List Value} {z : Array Value} {c c' : Tr (List C)} {el ty : TypeId} (hz : z.size = sz) (hl : l.length = ml) (ho : olds.length = len * sz) (hn : RC σ sz l news)
    (hneed : need = len + ml) (_hcap : need ≤ cap) (hb : w'.heap[b]? = some (.cells ((olds ++ news).toArray ++ Builtin.zeroCells z (cap - need)) ty (0, 0))) (hc : ∀ j, c'.get j = if len ≤ j ∧ j < len + l.length then l[j - len]? else c.get j)
    (hold : ∀ q row, q < len → c.get q = some row → row.length = sz ∧ ∃ vs, CL σ row vs ∧ ∀ r v, vs[r]? = some v → olds[q * sz + r]? = some v) : BR w' σ b (cap - need) (.cells sz c' need el false) := by
  have hnl := hn.1
  have hml : (len + ml) * sz = len * sz + ml * sz := Nat.add_mul _ _ _
  refine BR.ofCells hb (.inl rfl) ?_ (fun h => by cases h) (fun q row hq hr => ?_)
  · rw [Array.size_append, size_zeroCells, hz]
    simp only [List.size_toArray, List.length_append]
    rw [Nat.add_mul, hneed, ho, hnl, hl, hml]
    exact Nat.le_refl _
  · rw [hc] at hr
    have lift : ∀ j v, (olds ++ news)[j]? = some v → ((olds ++ news).toArray ++ Builtin.zeroCells z (cap - need))[j]? = some v := fun j v hj => by
      have hlt := (List.getElem?_eq_some_iff.1 hj).1
      rw [Array.getElem?_append_left (by simpa using hlt)]
      simpa using hj
    by_cases hh : len ≤ q ∧ q < len + l.length
    · rw [if_pos hh] at hr
      obtain ⟨g1, vs, g2, g3⟩ := hn.2.2 _ row hr
      refine ⟨g1, vs, g2, fun r v hv => lift _ v ?_⟩
      have := g3 r v hv
      have hq2 : len * sz ≤ q * sz := Nat.mul_le_mul_right _ hh.1
      rw [Nat.sub_mul] at this
      rw [List.getElem?_append_right (by omega), ho, show q * sz + r - len * sz = q * sz - len * sz + r by omega]
      exact this
    · rw [if_neg hh] at hr
      obtain ⟨g1, vs, g2, g3⟩ := hold q row (by omega) hr
      refine ⟨g1, vs, g2, fun r v hv => lift _ v ?_⟩
      have := g3 r v hv
      rw [List.getElem?_append_left (List.getElem?_eq_some_iff.1 this).1]
      exact this
end
end Go.D
namespace Go.D
set_option linter.unusedVariables false
set_option linter.unusedSimpArgs false
open Go.RowKit Go.Sl
section
variable {α : Type} {P : Program} {E : Env} {m : Nat} {t : Tr V} {lc : Ls} {h : H} {n : Nat} {k : KO α} {r : α}
variable (hE : ∀ t ti, E.tt.get t = some ti → TIok P t ti)
include hE in
theorem append_ok {ats : List TypeId} {ars : List Operand} {l : List V} (hl : opFs (opT m t lc) ars l) (e : builtinK .append ats l E h n k = some r) : Done P (.call ⟨.builtin .append, ars.toArray, ats.toArray⟩) (opT m t lc) h.get n k r := by
  cases l with
  | nil => exact nn e
  | cons x l =>
  cases l with
  | nil => exact nn e
  | cons y l =>
  cases l with
  | cons _ _ => exact nn e
  | nil =>
  cases ats with
  | nil => exact nn e
  | cons ty ats =>
  cases ats with
  | nil => exact nn e
  | cons tx ats =>
  cases ats with
  | cons _ _ => exact nn e
  | nil =>
  cases ars with
  | nil => exact hl.elim
  | cons xo ars =>
  cases ars with
  | nil => exact hl.2.elim
  | cons yo ars =>
  cases ars with
  | cons _ _ => exact hl.2.2.elim
  | nil =>
  have hx := hl.1
  have hy := hl.2.1
  obtain ⟨tj, htj, e1⟩ := oc_inv (e : oc (E.tt.get tx) (fun tj => opAppend ty x y tj.d E h n k) = some r)
  obtain ⟨el, i, z, q1, q2, q3, q4, zl, q5, q6, e2⟩ := elemK_inv hE e1
  obtain ⟨hby, e3⟩ := iff_inv e2
  obtain ⟨l, ml, rs, hS, e4⟩ := srcK_inv hE htj e3
  obtain ⟨hml, e5⟩ := iff_inv e4
  have hrd : ∀ b ∈ rs, ∃ o, h.get b = some o := fun b hb => by
    rcases hS.2.1 with e | ⟨b0, ob, e, g, _⟩
    · rw [e] at hb; cases hb
    · rw [e] at hb
      simp at hb
      subst hb
      exact ⟨_, g⟩
  have hby : i.bytes ≤ 65536 := ble_iff hby
  have hml : ml ≤ 65536 := ble_iff hml
  have hzc : z.cells.size = i.size := by
    have := (q5 (fun _ => none)).len
    simp at this; omega
  generalize hop : Op.call ⟨.builtin .append, [xo, yo].toArray, [ty, tx].toArray⟩ = op
  have hmx : xo ∈ op.operands.toList := by rw [← hop]; simp [Op.operands, Call.operands]
  have hmy : yo ∈ op.operands.toList := by rw [← hop]; simp [Op.operands, Call.operands]
  -- what the run does, from what append does
  have hrun : ∀ (a : Act) (w w' : World) (u : Value), (∀ tt, (Builtin.append_ #[ty, tx] tt #[a.eval xo, a.eval yo]).run P w = .ok u w') → ∀ o' : Oper, o'.op = op → (execOp a.eval o').run P w = .ok (.value u) w' ∨ ((execOp a.eval o').run P w = .ok .skip w' ∧ u = undef) := fun a w w' u H o' q => .inl (by
    subst hop
    simp only [execOp, q, resolve, invoke, builtin, Sem.run_bind, Sem.run_pure, Result.andThen_ok, List.map_toArray, List.map_cons, List.map_nil, H])
  have room : ∀ need, need ≤ 65536 → need * i.bytes ≤ 140737488355328 := fun need hn => by
    have : need * i.bytes ≤ 65536 * 65536 := Nat.mul_le_mul hn hby
    omega
  rcases slK_inv e5 with ⟨rfl, e6⟩ | ⟨b, o, len, cap, rfl, e6⟩
  · -- to nil
    cases ml with
    | zero =>
      refine ⟨_, rs, [], n, e6, ⟨Nat.le_refl _, fun p hp => by simp at hp, hrd, fun w0 Φ N σ T2 h2 a w ht hr hf hs H => ?_⟩⟩
      obtain ⟨news, s1, s2⟩ := src_use hS (fun _ hb => hb) hr H (evO hy hmy ht hs)
      have g1 : a.eval xo = .slice none 0 0 := evO hx hmx ht hs
      refine ⟨.slice none 0 0, w, σ, Sg.le.refl σ, fun _ _ => rfl, rfl, H, hrun a w w _ fun tt => ?_⟩
      rw [g1]
      rcases s1.kind with ⟨e', hk⟩ | hk <;> simp [Builtin.append_, run_underlying q1, run_underlying hk, sizeOf, typeInfo, q2, s1.len, s1.cells]
    | succ ml' =>
      obtain ⟨c, h1, e7⟩ := putRows_inv _ _ _ _ _ (e6 : putRows l .e 0 (fun c => k (.c (.sl n 0 (ml' + 1) (ml' + 1))) rs [(n, .cells i.size c (ml' + 1) el false)] (Nat.succ n)) = some r)
      refine ⟨_, rs, _, n + 1, e7, ⟨Nat.le_succ _, fun p hp => by simp at hp; subst hp; exact .inr ⟨Nat.le_refl _, Nat.lt_succ_self _⟩, hrd, fun w0 Φ N σ T2 h2 a w ht hr hf hs H => ?_⟩⟩
      obtain ⟨news, s1, s2⟩ := src_use hS (fun _ hb => hb) hr H (evO hy hmy ht hs)
      have g1 : a.eval xo = .slice none 0 0 := evO hx hmx ht hs
      have hn := hf n (Nat.le_refl _) (Nat.lt_succ_self _)
      have hap := fun tt => run_append_grow_src (P := P) w ty tx tt el i z q1 q2 q3 none 0 0 [] (run_firstCells_none w.drew i.size 0 0 0) (a.eval yo) (ml' + 1) news s1 (by omega) (by omega) (growslice_fits (by omega) (room _ (by omega)))
      have hge := grownCap_ge w (0 + (ml' + 1)) 0 el
      have hnew := H.alloc (n := n) (b := w.heap.size) (x := grownCap w (0 + (ml' + 1)) 0 el - (0 + (ml' + 1))) (o := .cells i.size c (0 + (ml' + 1)) el false) hn (grew_drew w (.cells (([] ++ news).toArray ++ Builtin.zeroCells z.cells (grownCap w (0 + (ml' + 1)) 0 el - (0 + (ml' + 1)))) el)) (Nat.le_refl _) (by simp)
        (grown_BR hzc hS.1 (olds := []) (len := 0) (by simp) (s2.le (sgSet_le hn)) rfl hge (heap_alloc_new w.drew _) h1 (fun q row hq => by omega))
      have z0 : 0 + (ml' + 1) = ml' + 1 := Nat.zero_add _
      simp only [z0] at hap hnew hge
      refine ⟨.slice (some ⟨w.heap.size, 0, none⟩) (ml' + 1) (grownCap w (ml' + 1) 0 el), _, _, sgSet_le hn, fun c hc => by unfold sgSet; rw [if_neg (by omega)], ⟨_, _, sgSet_at, .inl ?_⟩, hnew, hrun a w _ _ fun tt => ?_⟩
      · congr 1
        omega
      · rw [g1]; exact hap tt
  · -- to a row
    have e6 : fN (Nat.add len ml) _ = some r := e6
    rw [fN_eq] at e6
    obtain ⟨ob, h1, e7⟩ := oc_inv e6
    obtain ⟨bk, c, bl, be, bx, rfl, e8⟩ := cellsK_inv e7
    obtain ⟨h2, e9⟩ := iff_inv e8
    obtain ⟨h3, e10⟩ := iff_inv e9
    obtain rfl := beq_iff' h2
    have h3 : len + ml ≤ 65536 := ble_iff h3
    rcases rec_t e10 with ⟨hroom, e11⟩ | ⟨hroom, e11⟩
    · -- there is room
      have hroom : len + ml ≤ cap := ble_iff hroom
      obtain ⟨h4, e12⟩ := iff_inv e11
      obtain ⟨h5, e13⟩ := iff_inv e12
      have h4 : o % i.size = 0 := beq_iff' h4
      have h5 : o / i.size + (len + ml) ≤ bl := ble_iff h5
      rw [fN_eq] at e13
      obtain ⟨c', h6, e14⟩ := putRows_inv _ _ _ _ _ e13
      have ho : o / i.size * i.size = o := by
        have := Nat.div_add_mod o i.size
        rw [h4, Nat.mul_comm] at this
        omega
      refine ⟨_, _, _, n, e14, ⟨Nat.le_refl _, fun p hp => by simp at hp; subst hp; exact .inl (by simp), fun c hc => by
        rcases List.mem_cons.1 hc with rfl | hc
        · exact ⟨_, h1⟩
        · exact hrd c hc, fun w0 Φ N σ T2 h2 a w ht hr hf hs H => ?_⟩⟩
      obtain ⟨news, s1, s2⟩ := src_use hS (fun _ hb => by simp [hb]) hr H (evO hy hmy ht hs)
      have hb2 := (hr b (by simp)).trans h1
      obtain ⟨b', y, g1, g2, g3, hB⟩ := H.live b _ hb2 (by simp)
      obtain ⟨f1, f2⟩ := hB.wrRows (q0 := o / i.size + len) (c' := c') (by rw [hS.1]; omega) s2 (len' := bl) (x' := y) (ex' := bx) rfl (.inl (Nat.le_refl _)) (by omega) hB.1 h6
      rw [Nat.add_mul, ho] at f1 f2
      have hH := H.write hb2 (by simp) g1 (Grew.setCells b' news (o + len * i.size) w) f2
      obtain ⟨b2, y2, g4, g5 | ⟨l0, c0, o2, g5⟩⟩ := evO hx hmx ht hs
      · rw [g1] at g4; cases g4
        refine ⟨.slice (some ⟨b', o, none⟩) (len + ml) (cap + y), _, σ, Sg.le.refl σ, fun _ _ => rfl, ⟨b', y, g1, .inl rfl⟩, hH, hrun a w _ _ fun tt => ?_⟩
        rw [g5]
        exact run_append_room_src (P := P) w ty tx tt el i q1 q2 b' o len (cap + y) (a.eval yo) ml news s1 (by omega) (fun j hj => (f1 j hj).1) (fun j hj => (f1 j hj).2)
      · rw [g1] at g4; cases g4
        subst l0 c0
        obtain rfl : ml = 0 := by omega
        have hn0 : news = [] := List.eq_nil_of_length_eq_zero (by rw [s2.1, hS.1]; simp)
        subst hn0
        refine ⟨.slice (some ⟨b', o2, none⟩) (0 + 0) 0, _, σ, Sg.le.refl σ, fun _ _ => rfl, ⟨b', y, g1, .inr ⟨rfl, rfl, o2, rfl⟩⟩, hH, hrun a w _ _ fun tt => ?_⟩
        rw [g5]
        exact run_append_room_src (P := P) w ty tx tt el i q1 q2 b' o2 0 0 (a.eval yo) 0 [] s1 (by omega) (fun j hj => by simp at hj) (fun j hj => by simp at hj)
    · -- there is none that the executor knows of
      have hroom : cap < len + ml := ble_not hroom
      obtain ⟨h4, e12⟩ := iff_inv e11
      obtain ⟨h5, e13⟩ := iff_inv e12
      obtain ⟨h6, e14⟩ := iff_inv e13
      obtain rfl := beq_iff' h4
      obtain rfl := beq_iff' h5
      have h6 : len ≤ cap := ble_iff h6
      obtain ⟨c', h7, e15⟩ := putRows_inv _ _ _ _ _ e14
      -- the run that grows
      have grow : ∀ (w0 : World) (Φ : Fz) (σ : Sg) (h2 : Nat → Option AO) (a : Act) (w : World) (b' y o2 ccap : Nat) (news : List Value), HR w0 Φ σ h2 w → σ n = none → BR w σ b' y (.cells i.size c cap be bx) → Src P i.size tx (a.eval yo) ml news w → RC σ i.size l news →
          a.eval xo = .slice (some ⟨b', o2, none⟩) len ccap → (len = 0 ∨ o2 = 0) → ccap < len + ml → ∃ u w' σ', σ.le σ' ∧ (∀ c, (c < n ∨ n + 1 ≤ c) → σ' c = σ c) ∧ CV σ' (.c (.sl n 0 (len + ml) (len + ml))) u ∧ HR w0 Φ σ' (set1 h2 n (.cells i.size c' (len + ml) el false)) w' ∧
            ∀ o' : Oper, o'.op = op → (execOp a.eval o').run P w = .ok (.value u) w' ∨ ((execOp a.eval o').run P w = .ok .skip w' ∧ u = undef) := fun w0 Φ σ h2 a w b' y o2 ccap news H hn hB s1 s2 hx0 ho2 hcc => by
        obtain ⟨_, hcells, hrows⟩ := hB
        have hlk : len * i.size ≤ (cap + y) * i.size := Nat.mul_le_mul_right _ (by omega)
        obtain ⟨olds, p1, p2⟩ := cells_list (w := w) (b := b') (o := o2) (m := len * i.size) (fun j hj => by
          rcases ho2 with rfl | rfl
          · simp at hj
          · exact (hcells _ (by omega)).1)
        have hold := run_firstCells_some (P := P) w.drew i.size len ⟨b', o2, none⟩ len ccap olds p1 (fun j v hj => by rw [Sl.add_lit]; exact ((p2 j v).1 hj).2)
        have hap := fun tt => run_append_grow_src (P := P) w ty tx tt el i z q1 q2 q3 (some ⟨b', o2, none⟩) len ccap olds hold (a.eval yo) ml news s1 hcc (by omega) (growslice_fits hcc (room _ h3))
        have hge := grownCap_ge w (len + ml) ccap el
        have hnew := H.alloc (n := n) (b := w.heap.size) (x := grownCap w (len + ml) ccap el - (len + ml)) (o := .cells i.size c' (len + ml) el false) hn (grew_drew w (.cells ((olds ++ news).toArray ++ Builtin.zeroCells z.cells (grownCap w (len + ml) ccap el - (len + ml))) el)) (Nat.le_refl _) (by simp)
          (grown_BR hzc hS.1 p1 (s2.le (sgSet_le hn)) rfl hge (heap_alloc_new w.drew _) h7 (fun q row hq hr => by
            obtain ⟨f1, vs, f2, f3⟩ := hrows q row (by omega) hr
            refine ⟨f1, vs, f2.le (sgSet_le hn), fun j v hv => (p2 _ v).2 ⟨?_, ?_⟩⟩
            · have hj := (List.getElem?_eq_some_iff.1 hv).1
              have := f2.len
              have : (q + 1) * i.size ≤ len * i.size := Nat.mul_le_mul_right _ hq
              rw [Nat.succ_mul] at this
              omega
            · rcases ho2 with rfl | rfl
              · omega
              · rw [Nat.zero_add]; exact f3 j v hv))
        refine ⟨.slice (some ⟨w.heap.size, 0, none⟩) (len + ml) (grownCap w (len + ml) ccap el), _, _, sgSet_le hn, fun c hc => by unfold sgSet; rw [if_neg (by omega)], ⟨_, _, sgSet_at, .inl ?_⟩, hnew, hrun a w _ _ fun tt => ?_⟩
        · congr 1; omega
        · rw [hx0]; exact hap tt
      have both : ∀ (us : List (Nat × AO)), (us = [(b, .dead), (n, .cells i.size c' (len + ml) el false)] ∧ bx = false) ∨ (us = [(n, .cells i.size c' (len + ml) el false)] ∧ bx = true) → k (.c (.sl n 0 (len + ml) (len + ml))) (b :: rs) us (Nat.succ n) = some r →
          Done P op (opT m t lc) h.get n k r := fun us hus e16 => by
        refine ⟨_, _, _, n + 1, e16, ⟨Nat.le_succ _, fun p hp => ?_, fun c hc => by
          rcases List.mem_cons.1 hc with rfl | hc
          · exact ⟨_, h1⟩
          · exact hrd c hc, fun w0 Φ N σ T2 h2 a w ht hr hf hs H => ?_⟩⟩
        · rcases hus with ⟨rfl, _⟩ | ⟨rfl, _⟩
          · simp at hp
            rcases hp with rfl | rfl
            · exact .inl (by simp)
            · exact .inr ⟨Nat.le_refl _, Nat.lt_succ_self _⟩
          · simp at hp; subst hp
            exact .inr ⟨Nat.le_refl _, Nat.lt_succ_self _⟩
        · obtain ⟨news, s1, s2⟩ := src_use hS (fun _ hb => by simp [hb]) hr H (evO hy hmy ht hs)
          have hn := hf n (Nat.le_refl _) (Nat.lt_succ_self _)
          have hb2 := (hr b (by simp)).trans h1
          obtain ⟨b', y, g1, g2, g3, hB⟩ := H.live b _ hb2 (by simp)
          have fin : ∀ (o2 ccap : Nat), a.eval xo = .slice (some ⟨b', o2, none⟩) len ccap → (len = 0 ∨ o2 = 0) → ccap < len + ml → ∃ u w' σ', σ.le σ' ∧ (∀ c, (c < n ∨ n + 1 ≤ c) → σ' c = σ c) ∧ CV σ' (.c (.sl n 0 (len + ml) (len + ml))) u ∧ HR w0 Φ σ' (upd us h2) w' ∧
              ∀ o' : Oper, o'.op = op → (execOp a.eval o').run P w = .ok (.value u) w' ∨ ((execOp a.eval o').run P w = .ok .skip w' ∧ u = undef) := fun o2 ccap hx0 ho2 hcc => by
            rcases hus with ⟨rfl, _⟩ | ⟨rfl, _⟩
            · exact grow w0 Φ σ (set1 h2 b .dead) a w b' y o2 ccap news H.kill hn hB s1 s2 hx0 ho2 hcc
            · exact grow w0 Φ σ h2 a w b' y o2 ccap news H hn hB s1 s2 hx0 ho2 hcc
          obtain ⟨b2, y2, g4, g5 | ⟨l0, c0, o2, g5⟩⟩ := evO hx hmx ht hs
          · rw [g1] at g4; cases g4
            by_cases hin : len + ml ≤ cap + y
            · -- in place after all
              rcases hus with ⟨rfl, hbx⟩ | ⟨rfl, hbx⟩
              · obtain ⟨f1, f2⟩ := hB.wrRows (q0 := len) (c' := c') (by rw [hS.1]; omega) s2 (len' := len + ml) (x' := cap + y - (len + ml)) (ex' := false) (by omega) (.inr (by rw [hS.1])) h6 (fun h => by cases h) h7
                have f3 : BR (w.setCells b' (len * i.size) news) (sgSet σ n b' (cap + y - (len + ml))) b' (cap + y - (len + ml)) (.cells i.size c' (len + ml) el false) := f2.le (sgSet_le hn)
                have hH := H.move hb2 (by simp) g1 hn (Grew.setCells b' news (len * i.size) w) f3
                refine ⟨.slice (some ⟨b', 0, none⟩) (len + ml) (cap + y), _, _, sgSet_le hn, fun c hc => by unfold sgSet; rw [if_neg (by omega)], ⟨_, _, sgSet_at, .inl ?_⟩, hH, hrun a w _ _ fun tt => ?_⟩
                · congr 1; omega
                · rw [g5]
                  have hap := run_append_room_src (P := P) w ty tx tt el i q1 q2 b' 0 len (cap + y) (a.eval yo) ml news s1 hin (fun j hj => by rw [Nat.zero_add]; exact (f1 j hj).1) (fun j hj => by rw [Nat.zero_add]; exact (f1 j hj).2)
                  rw [Nat.zero_add] at hap
                  exact hap
              · have := hB.1 hbx
                omega
            · exact fin 0 (cap + y) g5 (.inr rfl) (by omega)
          · rw [g1] at g4; cases g4
            subst l0 c0
            exact fin o2 0 g5 (.inl rfl) hroom
      subst hop
      rcases rec_t e15 with ⟨hbx, e16⟩ | ⟨hbx, e16⟩
      · exact both _ (.inr ⟨rfl, hbx⟩) e16
      · exact both _ (.inl ⟨rfl, hbx⟩) e16
end
end Go.D
