/-
  Walks and laws of this seat; the base is the text Base.
-/
import Derived.Test.YtklcdfnhdljkjaaDoorP7T
namespace Go.Proofs.YtklcdfnhdljkjaaDoor
open Go.RowKit Go.Sl
/-! # What is laid at two places is alike -/
/-- Places that are as far from B as from B'. -/
def Lk (B B' : Nat) (i j : Int) : Prop := (i = -1 ∧ j = -1) ∨ ∃ c : Nat, i = ((B + c : Nat) : Int) ∧ j = ((B' + c : Nat) : Int)
/-- Nodes with the same in them. -/
structure Same (x y : api_Node) : Prop where
  kind : x.Kind = y.Kind
  name : x.Name = y.Name
  text : x.Text = y.Text
  attrs : x.Attrs = y.Attrs
  first : decide (0 ≤ x.First) = decide (0 ≤ y.First)
structure Alike (B B' : Nat) (x y : api_Node) : Prop where
  same : Same x y
  par : Lk B B' x.Parent y.Parent
  prev : Lk B B' x.Prev y.Prev
def All2 {α β : Type} (R : α → β → Prop) : List α → List β → Prop
  | [], [] => True
  | x :: xs, y :: ys => R x y ∧ All2 R xs ys
  | _, _ => False
theorem All2.append {α β : Type} {R : α → β → Prop} : ∀ {a : List α} {b : List β} {c : List α} {d : List β}, All2 R a b → All2 R c d → All2 R (a ++ c) (b ++ d)
  | [], [], _, _, _, h => h
  | _ :: _, _ :: _, _, _, h, h2 => ⟨h.1, All2.append h.2 h2⟩
  | [], _ :: _, _, _, h, _ => h.elim
  | _ :: _, [], _, _, h, _ => h.elim
theorem All2.get {α β : Type} {R : α → β → Prop} : ∀ {a : List α} {b : List β} (_ : All2 R a b) (i : Nat) (x : α), a[i]? = some x → ∃ y, b[i]? = some y ∧ R x y
  | [], [], _, i, x, h => by simp at h
  | x0 :: a, y0 :: b, h, 0, x, hx => by
    simp at hx
    subst hx
    exact ⟨y0, rfl, h.1⟩
  | _ :: a, _ :: b, h, i + 1, x, hx => by
    simp only [List.getElem?_cons_succ] at hx ⊢
    exact All2.get h.2 i x hx
  | [], _ :: _, h, _, _, _ => h.elim
  | _ :: _, [], h, _, _, _ => h.elim
section
variable {B B' : Nat}
mutual
theorem lay_sim : ∀ (p : dom_Part) (o : Nat) (pa pa' pr pr' nx nx' : Int), ∃ x y r r', lay p (B + o) pa pr nx = x :: r ∧ lay p (B' + o) pa' pr' nx' = y :: r' ∧ Same x y ∧ x.Parent = pa ∧ y.Parent = pa' ∧ x.Prev = pr ∧ y.Prev = pr' ∧ All2 (Alike B B') r r'
  | ⟨nm, tx, at_, ks⟩, o, pa, pa', pr, pr', nx, nx' => by
    by_cases h : nm = bs []
    · exact ⟨_, _, _, _, lay_text (p := ⟨nm, tx, at_, ks⟩) h .., lay_text (p := ⟨nm, tx, at_, ks⟩) h .., ⟨rfl, rfl, rfl, rfl, rfl⟩, rfl, rfl, rfl, rfl, trivial⟩
    · refine ⟨_, _, _, _, lay_elem (p := ⟨nm, tx, at_, ks⟩) h .., lay_elem (p := ⟨nm, tx, at_, ks⟩) h .., ⟨rfl, rfl, rfl, rfl, ?_⟩, rfl, rfl, rfl, rfl, lays_sim ks (o + 1) _ _ _ _ _ _ (.inr ⟨o, rfl, rfl⟩) (.inl ⟨rfl, rfl⟩)⟩
      show decide (0 ≤ (if ks.length = 0 then (-1 : Int) else ((B + o + 1 : Nat) : Int))) = decide (0 ≤ (if ks.length = 0 then (-1 : Int) else ((B' + o + 1 : Nat) : Int)))
      by_cases hk : ks.length = 0
      · rw [if_pos hk, if_pos hk]
      · rw [if_neg hk, if_neg hk, dT (by omega), dT (by omega)]
theorem lays_sim : ∀ (ks : List dom_Part) (o : Nat) (pa pa' pr pr' nx nx' : Int), Lk B B' pa pa' → Lk B B' pr pr' → All2 (Alike B B') (lays ks (B + o) pa pr nx) (lays ks (B' + o) pa' pr' nx')
  | [], _, _, _, _, _, _, _, _, _ => trivial
  | k :: ks, o, pa, pa', pr, pr', nx, nx', hpa, hpr => by
    simp only [lays]
    refine All2.append ?_ ?_
    · obtain ⟨x, y, r, r', e1, e2, e3, e4, e5, e6, e7, e8⟩ := lay_sim k o pa pa' pr pr' (if ks.length = 0 then nx else ((B + o + nsz k : Nat) : Int)) (if ks.length = 0 then nx' else ((B' + o + nsz k : Nat) : Int))
      rw [e1, e2]
      exact ⟨⟨e3, by rw [e4, e5]; exact hpa, by rw [e6, e7]; exact hpr⟩, e8⟩
    · have := lays_sim ks (o + nsz k) pa pa' ((B + o : Nat) : Int) ((B' + o : Nat) : Int) nx nx' hpa (.inr ⟨o, rfl, rfl⟩)
      rw [← Nat.add_assoc, ← Nat.add_assoc] at this
      exact this
end
end
/-! # A Part whose nodes stand alone well -/
mutual
theorem good_of_alone : ∀ (p : dom_Part) (b : Nat) (pa pr nx : Int), (∀ x ∈ lay p b pa pr nx, aloneP x) → goodP p
  | ⟨nm, tx, at_, ks⟩, b, pa, pr, nx, h => by
    unfold goodP
    by_cases hn : nm = bs []
    · refine ⟨fun _ => ?_, fun e => absurd hn e⟩
      have hx := h (tnode tx pa pr nx) (by rw [lay_text (p := ⟨nm, tx, at_, ks⟩) hn]; exact .head _)
      rcases hx with ⟨_, _, h3, _⟩ | ⟨h1, _⟩
      · exact h3
      · exact absurd h1 (by simp [tnode])
    · have e := lay_elem (p := ⟨nm, tx, at_, ks⟩) hn b pa pr nx
      refine ⟨fun e => absurd e hn, fun _ => ?_⟩
      have hx := h _ (by rw [e]; exact .head _)
      rcases hx with ⟨h1, _⟩ | ⟨_, _, _, h4, h5⟩
      · exact absurd h1 (by simp [enode])
      · exact ⟨h4, h5, goods_of_alone ks _ _ _ _ fun x hx => h x (by rw [e]; exact .tail _ hx)⟩
theorem goods_of_alone : ∀ (ks : List dom_Part) (b : Nat) (pa pr nx : Int), (∀ x ∈ lays ks b pa pr nx, aloneP x) → goodPs ks
  | [], _, _, _, _, _ => trivial
  | k :: ks, b, pa, pr, nx, h => by
    simp only [lays, List.mem_append] at h
    exact ⟨good_of_alone k _ _ _ _ fun x hx => h x (.inl hx), goods_of_alone ks _ _ _ _ fun x hx => h x (.inr hx)⟩
end
end Go.Proofs.YtklcdfnhdljkjaaDoor
