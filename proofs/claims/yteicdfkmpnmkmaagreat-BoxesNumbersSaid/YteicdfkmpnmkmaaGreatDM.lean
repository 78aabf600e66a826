/-
  Walks and laws of this seat; the base is the text Base.
-/
import Derived.Test.YteicdfkmpnmkmaaGreatDL
namespace Go.D
open Go.RowKit Go.Sl

/-! ## The tables, checked -/
def Tr.toL {γ : Type} (g : Nat → Nat) : Tr γ → List (Nat × γ)
  | .e => []
  | .n v l r => (match v with | some x => [(g 0, x)] | none => []) ++ (l.toL (fun k => g (2 * k + 1)) ++ r.toL (fun k => g (2 * k + 2)))
theorem Tr.mem_toL {γ : Type} : ∀ (t : Tr γ) (g : Nat → Nat) (k : Nat) (x : γ), t.get k = some x → (g k, x) ∈ t.toL g
  | .e, g, k, x, h => by cases h
  | .n v l r, g, 0, x, h => by
    have h : v = some x := h
    subst h
    simp [Tr.toL]
  | .n v l r, g, k + 1, x, h => by
    have h : (Bool.rec (r.get (k / 2)) (l.get (k / 2)) (Nat.beq (k % 2) 0) : Option γ) = some x := h
    rcases rec_t h with ⟨hb, h⟩ | ⟨hb, h⟩
    · have := mem_toL l (fun k => g (2 * k + 1)) _ x h
      have e : 2 * (k / 2) + 1 = k + 1 := by
        have : k % 2 = 0 := Nat.eq_of_beq_eq_true hb
        omega
      simp only [e] at this
      simp [Tr.toL, this]
    · have := mem_toL r (fun k => g (2 * k + 2)) _ x h
      have e : 2 * (k / 2) + 2 = k + 1 := by
        have : k % 2 ≠ 0 := fun e => by rw [e] at hb; cases hb
        omega
      simp only [e] at this
      simp [Tr.toL, this]

def zB : C → Value → Bool
  | .b x, .bool y => x == y
  | .i k n, .int k' n' => decide (k = k') && decide (n = n')
  | .s [], .string s => s.data.toList.isEmpty
  | .pn, .pointer none => true
  | .sn, .slice none l c => l == 0 && c == 0
  | .mn, .map none => true
  | .nf, .nilFunc => true
  | _, _ => false
def zsB : List C → List Value → Bool
  | [], [] => true
  | c :: l, v :: r => zB c v && zsB l r
  | _, _ => false
theorem zB_ok {σ : Sg} {c : C} {v : Value} (h : zB c v = true) : CC σ c v := by
  unfold zB at h
  split at h
  · simp only [beq_iff_eq] at h; subst h; rfl
  · simp only [Bool.and_eq_true, decide_eq_true_eq] at h; obtain ⟨rfl, rfl⟩ := h; rfl
  · simp only [List.isEmpty_iff] at h
    exact ⟨_, rfl, by simp [byl, h]⟩
  · rfl
  · simp only [Bool.and_eq_true, beq_iff_eq] at h; obtain ⟨rfl, rfl⟩ := h; rfl
  · rfl
  · rfl
  · cases h
theorem zsB_ok {σ : Sg} : ∀ {l : List C} {r : List Value}, zsB l r = true → CL σ l r
  | [], [], _ => trivial
  | c :: l, v :: r, h => by
    simp only [zsB, Bool.and_eq_true] at h
    exact ⟨zB_ok h.1, zsB_ok h.2⟩
  | [], _ :: _, h => by cases h
  | _ :: _, [], h => by cases h

def fsB (P : Program) : List (Nat × TypeId) → List Field → Bool
  | [], [] => true
  | p :: l, f :: r => f.offset == p.1 && f.type == p.2 && (match P.info? f.type with | some i => !(i.size == 0) | none => false) && fsB P l r
  | _, _ => false
theorem fsB_ok {P : Program} : ∀ {l : List (Nat × TypeId)} {r : List Field}, fsB P l r = true → r.length = l.length ∧ ∀ (i : Nat) (p : Nat × TypeId), l[i]? = some p → ∃ f : Field, r[i]? = some f ∧ f.offset = p.1 ∧ f.type = p.2 ∧ ∃ i, P.info? f.type = some i ∧ i.size ≠ 0
  | [], [], _ => ⟨rfl, fun i p h => by simp at h⟩
  | p :: l, f :: r, h => by
    simp only [fsB, Bool.and_eq_true, beq_iff_eq] at h
    obtain ⟨⟨⟨h1, h2⟩, h3⟩, h4⟩ := h
    obtain ⟨g1, g2⟩ := fsB_ok h4
    refine ⟨by simp [g1], fun i q hq => ?_⟩
    cases i with
    | zero =>
      simp only [List.getElem?_cons_zero, Option.some.injEq] at hq
      subst hq
      refine ⟨f, rfl, h1, h2, ?_⟩
      split at h3
      · rename_i i hi; exact ⟨i, hi, by simpa using h3⟩
      · cases h3
    | succ i => simpa using g2 i q (by simpa using hq)
  | [], _ :: _, h => by cases h
  | _ :: _, [], h => by cases h
def dsB (P : Program) : Ds → TypeDesc → Bool
  | .int k, .int k' => decide (k' = k)
  | .str, .string => true
  | .slice e, .slice e' => e' == e
  | .struct fs, .struct F => fsB P fs F.toList
  | .array n e, .array n' e' => n' == n && e' == e && (P.info? e).isSome
  | .map k v, .map k' v' => k' == k && v' == v
  | .other, _ => true
  | _, _ => false
theorem dsB_ok {P : Program} {x : Ds} {d : TypeDesc} (h : dsB P x d = true) : DsOk P x d := by
  unfold dsB at h
  split at h
  · simp only [decide_eq_true_eq] at h; subst h; rfl
  · rfl
  · simp only [beq_iff_eq] at h; subst h; rfl
  · obtain ⟨g1, g2⟩ := fsB_ok h
    exact ⟨_, rfl, by simpa using g1, fun i p hp => by simpa using g2 i p hp⟩
  · simp only [Bool.and_eq_true, beq_iff_eq] at h
    obtain ⟨⟨rfl, rfl⟩, h3⟩ := h
    exact ⟨rfl, Option.isSome_iff_exists.mp h3⟩
  · simp only [Bool.and_eq_true, beq_iff_eq] at h
    obtain ⟨rfl, rfl⟩ := h
    rfl
  · trivial
  · cases h
def aggB : TypeDesc → Bool
  | .struct _ => true
  | .array _ _ => true
  | _ => false
def tiB (P : Program) (p : Nat × TI) : Bool := match P.underlying p.1, P.info? p.1 with
  | some d, some i => match i.zero with
    | some z => i.size == p.2.sz && i.bytes == p.2.by_ && aggB d == p.2.ag && dsB P p.2.d d && zsB p.2.z z.cells.toList && p.2.z.length == p.2.sz && (p.2.ag || z.oneCell') && Nat.blt 0 p.2.sz
    | none => false
  | _, _ => false
theorem aggB_eq (d : TypeDesc) : Agg d = aggB d := by cases d <;> simp [Agg, aggB]
theorem tiB_ok {P : Program} {t : Nat} {ti : TI} (h : tiB P (t, ti) = true) : TIok P t ti := by
  unfold tiB at h
  split at h
  · rename_i d i h1 h2
    split at h
    · rename_i z h3
      simp only [Bool.and_eq_true, beq_iff_eq, Bool.or_eq_true] at h
      obtain ⟨⟨⟨⟨⟨⟨⟨e1, e2⟩, e3⟩, e4⟩, e5⟩, e6⟩, e7⟩, e8⟩ := h
      exact ⟨d, i, z, h1, h2, e1, e2, h3, (aggB_eq d).trans e3, dsB_ok e4, fun σ => zsB_ok e5, e6, fun e => by simpa [e] using e7, Nat.blt_eq.mp e8⟩
    · cases h
  · cases h
end Go.D
