/-
  Walks and laws of this seat.
-/
import Derived.Test.YtdjjeahiomackaaGreatVA2
import Derived.Test.YtdjjeahiomackaaGreatBash
namespace Go.V
set_option linter.unusedVariables false
set_option linter.unusedSimpArgs false
set_option linter.unusedSectionVars false
open Go.RowKit Go.Sl
def RWp {α : Type} (R : List Value → α → Prop) : List (List Value) → List α → Prop
  | [],[] => True
  | r :: rs, x :: xs => R r x ∧ RWp R rs xs
  | _, _ => False
inductive TrR {α : Type} (R : List Value → α → Prop) (D : Value → List (List Value) → Prop) : List Value → Tr α → Prop
  | mk {r1 : List Value} {v : Value} {x : α} {kids : List (Tr α)} {rows : List (List Value)} (h1 : R r1 x) (h2 : D v rows) (h3 : rows.length = kids.length) (h4 : ∀ (i : Nat) (r : List Value) (y : Tr α), rows[i]? = some r → kids[i]? = some y → TrR R D r y) : TrR R D (r1 ++ [v]) (.mk x kids)
theorem zmy {α : Type} {R : List Value → α → Prop} : ∀ {rows : List (List Value)} {xs : List α}, RWp R rows xs ↔ rows.length = xs.length ∧ ∀ (i : Nat) (r : List Value) (y : α), rows[i]? = some r → xs[i]? = some y → R r y
  | [],[] => ⟨fun _ => ⟨rfl, fun i r y h => by simp at h⟩, fun _ => trivial⟩
  | r :: rs, x :: xs => ⟨fun ⟨h1, h2⟩ => by
      obtain ⟨h3, h4⟩ := zmy.1 h2
      refine ⟨by simp [h3], fun i r' y hr hy => ?_⟩
      cases i with
      | zero => simp at hr hy; subst hr; subst hy; exact h1
      | succ i => simp at hr hy; exact h4 i r' y hr hy, fun ⟨h1, h2⟩ => ⟨h2 0 r x rfl rfl, zmy.2 ⟨by simpa using h1, fun i r' y hr hy => h2 (i + 1) r' y (by simpa using hr) (by simpa using hy)⟩⟩⟩
  | [], _ :: _ => ⟨fun h => h.elim, fun ⟨h, _⟩ => by simp at h⟩
  | _ :: _,[] => ⟨fun h => h.elim, fun ⟨h, _⟩ => by simp at h⟩
theorem TrR.mono {α : Type} {R R' : List Value → α → Prop} {D D' : Value → List (List Value) → Prop} (hR : ∀ r x, R r x → R' r x) (hf : ∀ v rows, D v rows → D' v rows) {r : List Value} {t : Tr α} (h : TrR R D r t) : TrR R' D' r t := by
  induction h with
  | mk h1 h2 h3 h4 ih => exact .mk (hR _ _ h1) (hf _ _ h2) h3 ih
/-- What was frozen at some start: what is new has been frozen since. -/
class F0 where
  f : Fz
variable [F0]
def f00 : Fz := F0.f
def fn (f : Fz) : Fz := fy f00 f
theorem fn_le {f : Fz} : Fz.le (fn f) f := fy_le
theorem fnl {f f' : Fz} (h : Fz.le f f') : Fz.le (fn f) (fn f') := fyl h
def TC.fz (c : TC) (f : Fz) : Fz := match c with
  | .tn _ => fn f
  | _ => f
theorem TC.fz_le (c : TC) {f : Fz} : Fz.le (c.fz f) f := by
  cases c <;> first | exact .refl f | exact fn_le
theorem TC.fzl (c : TC) {f f' : Fz} (h : Fz.le f f') : Fz.le (c.fz f) (c.fz f') := by
  cases c <;> first | exact h | exact fnl h
def Wh (f : Fz) (k : Nat) (v : Value) : Prop := (∃ ao cap, v = .slice ao 0 cap) ∨ ∃ b n cap cur e, v = .slice (some ⟨b,0, none⟩) n cap ∧ f b = some (.cells cur e (0,0)) ∧ n ≤ cap ∧ cap ≤ maxLen ∧ cur.size = cap * k
theorem Wh.le {f f' : Fz} {k : Nat} {v : Value} (h : Wh f k v) (hf : Fz.le f f') : Wh f' k v := by
  rcases h with h | ⟨b, n, cap, cur, e, h1, h2, h3⟩
  · exact .inl h
  · exact .inr ⟨b, n, cap, cur, e, h1, hf _ _ h2, h3⟩
def TC.wh (c : TC) (f : Fz) (v : Value) : Prop := match c with
  | .tn c => Wh (fn f) (c.k + 1) v
  | _ => True
def TC.rd (c : TC) (f : Fz) (v : Value) (rows : List (List Value)) : Prop := Rd (c.fz f) [] v c.k rows ∧ c.wh f v
theorem TC.whl (c : TC) {f f' : Fz} {v : Value} (h : c.wh f v) (hf : Fz.le f f') : c.wh f' v := by
  cases c <;> first | exact trivial | exact Wh.le h (fnl hf)
theorem TC.rdl (c : TC) {f f' : Fz} {v : Value} {rows : List (List Value)} (h : c.rd f v rows) (hf : Fz.le f f') : c.rd f' v rows := ⟨h.1.le (c.fzl hf), c.whl h.2 hf⟩
theorem TC.rd_cut {c : TC} (hc : c.fl = true) {f : Fz} {v : Value} {rows : List (List Value)} {a b : Nat} (h : c.rd f v rows) (h1 : a ≤ b) (h2 : b ≤ rows.length) : c.rd f (cutv v c.k a b) ((rows.take b).drop a) := ⟨Rd.cut h.1 h1 h2, by cases c <;> first | exact trivial | cases hc⟩
theorem TC.rd_nil (c : TC) {f : Fz} : c.rd f (.slice none 0 0) [] := ⟨Rd.nil _ _ _, by cases c <;> first | exact trivial | exact .inl ⟨_, _, rfl⟩⟩
theorem TC.rdU (c : TC) {f : Fz} {v : Value} {rows : List (List Value)} (h : c.rd f v rows) : Rd f [] v c.k rows := h.1.le c.fz_le
mutual
def TC.R : (c : TC) → Fz → List Value → c.T → Prop
  | .int k, _, r, n => r = [.int k n]
  | .bool, _, r, b => r = [.bool b]
  | .str, _, r, s => r = [.string s]
  | .sl e, f, r, xs => ∃ v, r = [v] ∧ ∃ rows, e.rd f v rows ∧ RWp (e.R f) rows xs
  | .nsl e, f, r, xs => ∃ v, r = [v] ∧ (∃ rows, e.rd f v rows ∧ RWp (e.R f) rows xs) ∧ (xs = [] → v = .slice none 0 0)
  | .tr c, f, r, t => TrR (c.R f) ((TC.tr c).rd f) r t
  | .tn c, f, r, t => TrR (c.R f) ((TC.tn c).rd f) r t
  | .st l, f, r, x => l.R f r x
def TL.R : (l : TL) → Fz → List Value → l.T → Prop
  | .nil, _, r, _ => r = []
  | .cons c l, f, r, x => ∃ r1 r2, r = r1 ++ r2 ∧ c.R f r1 x.1 ∧ l.R f r2 x.2
end
theorem RWp.mono {α : Type} {R R' : List Value → α → Prop} (h : ∀ r x, R r x → R' r x) : ∀ {rows : List (List Value)} {xs : List α}, RWp R rows xs → RWp R' rows xs
  | [],[], _ => trivial
  | _ :: _, _ :: _, ⟨h1, h2⟩ => ⟨h _ _ h1, RWp.mono h h2⟩
mutual
theorem TC.mono : ∀ (c : TC) {f f' : Fz} {r : List Value} {x : c.T}, c.R f r x → Fz.le f f' → c.R f' r x
  | .int _, _, _, _, _, h, _ => h
  | .bool, _, _, _, _, h, _ => h
  | .str, _, _, _, _, h, _ => h
  | .sl e, _, _, _, _, h, hf => by
    obtain ⟨v, h1, rows, h2, h3⟩ := h
    exact ⟨v, h1, rows, e.rdl h2 hf, h3.mono fun _ _ h => e.mono h hf⟩
  | .nsl e, _, _, _, _, h, hf => by
    obtain ⟨v, h1, ⟨rows, h2, h3⟩, h4⟩ := h
    exact ⟨v, h1, ⟨rows, e.rdl h2 hf, h3.mono fun _ _ h => e.mono h hf⟩, h4⟩
  | .tr c, _, _, _, _, h, hf => TrR.mono (fun _ _ h => c.mono h hf) (fun _ _ h => TC.rdl (.tr c) h hf) h
  | .tn c, _, _, _, _, h, hf => TrR.mono (fun _ _ h => c.mono h hf) (fun _ _ h => TC.rdl (.tn c) h hf) h
  | .st l, _, _, _, _, h, hf => l.mono (h : l.R _ _ _) hf
theorem TL.mono : ∀ (l : TL) {f f' : Fz} {r : List Value} {x : l.T}, l.R f r x → Fz.le f f' → l.R f' r x
  | .nil, _, _, _, _, h, _ => h
  | .cons c l, _, _, _, _, h, hf => by
    obtain ⟨r1, r2, h1, h2, h3⟩ := h
    exact ⟨r1, r2, h1, c.mono h2 hf, l.mono h3 hf⟩
end
theorem oneApp {k m : Nat} {r s : List Value} (h : OneRow k r) (g : OneRow m s) : OneRow (k + m) (r ++ s) :=
  ⟨by rw [List.length_append, h.1, g.1], fun x hx => by
    rcases List.mem_append.1 hx with hx | hx
    · exact h.2 x hx
    · exact g.2 x hx⟩
mutual
theorem TC.oneR : ∀ (c : TC) {f : Fz} {r : List Value} {x : c.T}, c.R f r x → OneRow c.k r
  | .int _, _, _, _, h => by obtain rfl := (h : _ = _); exact ⟨rfl, by simp [Value.oneCell']⟩
  | .bool, _, _, _, h => by obtain rfl := (h : _ = _); exact ⟨rfl, by simp [Value.oneCell']⟩
  | .str, _, _, _, h => by obtain rfl := (h : _ = _); exact ⟨rfl, by simp [Value.oneCell']⟩
  | .sl e, _, _, _, h => by
    obtain ⟨v, rfl, rows, h2, _⟩ := h
    exact ⟨rfl, by simp [h2.1.one]⟩
  | .nsl e, _, _, _, h => by
    obtain ⟨v, rfl, ⟨rows, h2, _⟩, _⟩ := h
    exact ⟨rfl, by simp [h2.1.one]⟩
  | .tr c, _, _, _, h => by
    cases h with
    | mk h1 h2 h3 h4 => exact oneApp (c.oneR h1) ⟨rfl, by simp [h2.1.one]⟩
  | .tn c, _, _, _, h => by
    cases h with
    | mk h1 h2 h3 h4 => exact oneApp (c.oneR h1) ⟨rfl, by simp [h2.1.one]⟩
  | .st l, _, _, _, h => l.oneR (h : l.R _ _ _)
theorem TL.oneR : ∀ (l : TL) {f : Fz} {r : List Value} {x : l.T}, l.R f r x → OneRow l.k r
  | .nil, _, _, _, h => by obtain rfl := (h : _ = _); exact ⟨rfl, by simp⟩
  | .cons c l, _, _, _, h => by
    obtain ⟨r1, r2, rfl, h2, h3⟩ := h
    exact oneApp (c.oneR h2) (l.oneR h3)
end
def TC.ty (c : TC) : Ty c.T := ⟨c.k, c.R, c.mono, c.oneR⟩
theorem zdc {c : TC} {f : Fz} : ∀ {rows : List (List Value)} {xs : List c.T}, RWp (c.R f) rows xs ↔ RW c.ty f rows xs
  | [],[] => Iff.rfl
  | r :: rs, x :: xs => ⟨fun ⟨h1, h2⟩ => ⟨h1, zdc.1 h2⟩, fun ⟨h1, h2⟩ => ⟨h1, zdc.2 h2⟩⟩
  | [], _ :: _ => Iff.rfl
  | _ :: _,[] => Iff.rfl
def TS (c : TC) (f : Fz) (v : Value) (xs : List c.T) : Prop := ∃ rows, c.rd f v rows ∧ RW c.ty f rows xs
theorem TS.le {c : TC} {f f' : Fz} {v : Value} {xs : List c.T} (h : TS c f v xs) (hf : Fz.le f f') : TS c f' v xs := by
  obtain ⟨rows, h1, h2⟩ := h
  exact ⟨rows, c.rdl h1 hf, h2.le hf⟩
theorem TS.rd {c : TC} {f : Fz} {v : Value} {xs : List c.T} (h : TS c f v xs) : ∃ rows, Rd f [] v c.k rows ∧ RW c.ty f rows xs := by
  obtain ⟨rows, h1, h2⟩ := h
  exact ⟨rows, c.rdU h1, h2⟩
theorem TS.one {c : TC} {f : Fz} {v : Value} {xs : List c.T} (h : TS c f v xs) : v.oneCell' = true := by
  obtain ⟨rows, h1, h2⟩ := h
  exact h1.1.one
theorem TS.nil {c : TC} {f : Fz} : TS c f (.slice none 0 0) [] := ⟨[], c.rd_nil, trivial⟩
abbrev Nm := Nat → Option Value
def Nm.le (N M : Nm) : Prop := ∀ j v, N j = some v → M j = some v
theorem Nm.le.refl (N : Nm) : Nm.le N N := fun _ _ h => h
theorem Nm.le.trans {A B D : Nm} (h : Nm.le A B) (g : Nm.le B D) : Nm.le A D := fun _ _ e => g _ _ (h _ _ e)
mutual
def CR (f : Fz) (N : Nm) : C → Value → Prop
  | .b x, v => v = .bool x
  | .i k n, v => v = .int k n
  | .s x, v => v = .string x
  | .sl c xs, v => TS c f v xs
  | .sn c xs, v => TS c f v xs ∧ (xs = [] → v = .slice none 0 0)
  | .nl, v => v = .slice none 0 0
  | .fp c x o, v => ∃ b base r, v = .pointer (some ⟨b, base + o, none⟩) ∧ c.R f r x ∧ ∀ j u, r[j]? = some u → Cell f [] b (base + j) u
  | .bp j o, v => ∃ b, N j = some (.pointer (some ⟨b,0, none⟩)) ∧ v = .pointer (some ⟨b, o, none⟩)
  | .op k j i o, v => ∃ v0, N j = some v0 ∧ v = eaddr v0 k i.toNat o ∧ v.oneCell' = true
  | .os j, v => N j = some v ∧ v.oneCell' = true
  | .ov k j lo hi, v => ∃ v0, N j = some v0 ∧ v = cutv v0 k lo.toNat hi.toNat ∧ v.oneCell' = true ∧ 0 ≤ lo ∧ lo ≤ hi ∧ ∃ ao m c, v0 = .slice ao m c
  | .it j, v => N j = some v ∧ ∃ b, v = .pointer (some ⟨b,0, none⟩)
  | .fn g, v => v = .func (.func g) #[] #[]
  | .cl g l, v => ∃ vs, v = .func (.func g) #[] (List.toArray vs) ∧ CLR f N l vs
  | .fm j, v => N j = some v ∧ ∃ b, v = .pointer (some ⟨b,0, none⟩)
  | .me j, v => ∃ b e t, N j = some (.pointer (some ⟨b,0, none⟩)) ∧ f b = some (.cells #[v] e t) ∧ v.oneCell' = true
  | .nf, v => v = .nilFunc
  | .u, v => v = undef
def CLR (f : Fz) (N : Nm) : List C → List Value → Prop
  | [],[] => True
  | c :: l, v :: r => CR f N c v ∧ CLR f N l r
  | _, _ => False
end
def UR (f : Fz) (N : Nm) : U → Value → Prop
  | .c x, v => CR f N x v
  | .a l, v => ∃ vs, v = .agg vs.toArray ∧ CLR f N l vs
def ULR (f : Fz) (N : Nm) : List U → List Value → Prop
  | [],[] => True
  | c :: l, v :: r => UR f N c v ∧ ULR f N l r
  | _, _ => False
def VR (f : Fz) (N : Nm) : V → Value → Prop
  | .c x, v => CR f N x v
  | .a l, v => ∃ vs, v = .agg vs.toArray ∧ CLR f N l vs
  | .t l, v => ∃ vs, v = .tuple vs.toArray ∧ ULR f N l vs
def VLR (f : Fz) (N : Nm) : List V → List Value → Prop
  | [],[] => True
  | c :: l, v :: r => VR f N c v ∧ VLR f N l r
  | _, _ => False
section
variable {f f' : Fz} {N M : Nm}
mutual
theorem CR.le (hf : Fz.le f f') (hN : Nm.le N M) : ∀ {c : C} {v : Value}, CR f N c v → CR f' M c v
  | .b _, _, h => h
  | .i _ _, _, h => h
  | .s _, _, h => h
  | .sl _ _, _, h => TS.le (h : TS _ f _ _) hf
  | .sn _ _, _, h => ⟨TS.le h.1 hf, h.2⟩
  | .nl, _, h => h
  | .fp _ _ _, _, h => by
    obtain ⟨b, base, r, h1, h2, h3⟩ := h
    exact ⟨b, base, r, h1, TC.mono _ h2 hf, fun j u hj => (h3 j u hj).mono hf (fun _ h => h)⟩
  | .bp _ _, _, h => by obtain ⟨b, h1, h2⟩ := h; exact ⟨b, hN _ _ h1, h2⟩
  | .op _ _ _ _, _, h => by obtain ⟨b, h1, h2⟩ := h; exact ⟨b, hN _ _ h1, h2⟩
  | .os _, _, h => ⟨hN _ _ h.1, h.2⟩
  | .ov _ _ _ _, _, h => by obtain ⟨b, h1, h2⟩ := h; exact ⟨b, hN _ _ h1, h2⟩
  | .it _, _, h => ⟨hN _ _ h.1, h.2⟩
  | .fn _, _, h => h
  | .cl _ _, _, h => by obtain ⟨vs, h1, h2⟩ := h; exact ⟨vs, h1, CLR.le hf hN h2⟩
  | .fm _, _, h => ⟨hN _ _ h.1, h.2⟩
  | .me _, _, h => by obtain ⟨b, e, t, h1, h2, h3⟩ := h; exact ⟨b, e, t, hN _ _ h1, hf _ _ h2, h3⟩
  | .nf, _, h => h
  | .u, _, h => h
theorem CLR.le (hf : Fz.le f f') (hN : Nm.le N M) : ∀ {l : List C} {r : List Value}, CLR f N l r → CLR f' M l r
  | [],[], _ => trivial
  | _ :: _, _ :: _, ⟨h1, h2⟩ => ⟨CR.le hf hN h1, CLR.le hf hN h2⟩
end
theorem UR.le (hf : Fz.le f f') (hN : Nm.le N M) {c : U} {v : Value} (h : UR f N c v) : UR f' M c v := by
  cases c with
  | c x => exact CR.le hf hN h
  | a l => obtain ⟨vs, h1, h2⟩ := h; exact ⟨vs, h1, h2.le hf hN⟩
theorem ULR.le (hf : Fz.le f f') (hN : Nm.le N M) : ∀ {l : List U} {r : List Value}, ULR f N l r → ULR f' M l r
  | [],[], _ => trivial
  | _ :: _, _ :: _, ⟨h1, h2⟩ => ⟨h1.le hf hN, ULR.le hf hN h2⟩
theorem VR.le (hf : Fz.le f f') (hN : Nm.le N M) {c : V} {v : Value} (h : VR f N c v) : VR f' M c v := by
  cases c with
  | c x => exact CR.le hf hN h
  | a l => obtain ⟨vs, h1, h2⟩ := h; exact ⟨vs, h1, h2.le hf hN⟩
  | t l => obtain ⟨vs, h1, h2⟩ := h; exact ⟨vs, h1, h2.le hf hN⟩
theorem VLR.le (hf : Fz.le f f') (hN : Nm.le N M) : ∀ {l : List V} {r : List Value}, VLR f N l r → VLR f' M l r
  | [],[], _ => trivial
  | _ :: _, _ :: _, ⟨h1, h2⟩ => ⟨h1.le hf hN, VLR.le hf hN h2⟩
theorem CR.one : ∀ {c : C} {v : Value}, CR f N c v → c ≠ .u → v.oneCell' = true
  | .b _, _, h, _ => by rw [show _ = _ from h]; rfl
  | .i _ _, _, h, _ => by rw [show _ = _ from h]; rfl
  | .s _, _, h, _ => by rw [show _ = _ from h]; rfl
  | .sl _ _, _, h, _ => TS.one (h : TS _ f _ _)
  | .sn _ _, _, h, _ => TS.one h.1
  | .nl, _, h, _ => by rw [show _ = _ from h]; rfl
  | .fp _ _ _, _, h, _ => by obtain ⟨_, _, _, rfl, _⟩ := h; rfl
  | .bp _ _, _, h, _ => by obtain ⟨_, _, rfl⟩ := h; rfl
  | .op _ _ _ _, _, h, _ => by obtain ⟨_, _, _, h⟩ := h; exact h
  | .os _, _, h, _ => h.2
  | .ov _ _ _ _, _, h, _ => by obtain ⟨_, _, _, h, _⟩ := h; exact h
  | .it _, _, h, _ => by obtain ⟨_, _, rfl⟩ := h; rfl
  | .fn _, _, h, _ => by rw [show _ = _ from h]; rfl
  | .cl _ _, _, h, _ => by obtain ⟨_, rfl, _⟩ := h; rfl
  | .fm _, _, h, _ => by obtain ⟨_, _, rfl⟩ := h; rfl
  | .me _, _, h, _ => by obtain ⟨_, _, _, _, _, h⟩ := h; exact h
  | .nf, _, h, _ => by rw [show _ = _ from h]; rfl
  | .u, _, _, hu => absurd rfl hu
theorem CLR.len : ∀ {l : List C} {r : List Value}, CLR f N l r → r.length = l.length
  | [],[], _ => rfl
  | _ :: _, _ :: _, ⟨_, h2⟩ => by simp [CLR.len h2]
theorem CLR.app : ∀ {l m : List C} {r s : List Value}, CLR f N l r → CLR f N m s → CLR f N (l ++ m) (r ++ s)
  | [], _,[], _, _, h => h
  | _ :: _, _, _ :: _, _, ⟨h1, h2⟩, h => ⟨h1, CLR.app h2 h⟩
theorem CLR.split : ∀ {l m : List C} {r : List Value}, CLR f N (l ++ m) r → ∃ r1 r2, r = r1 ++ r2 ∧ CLR f N l r1 ∧ CLR f N m r2
  | [], _, r, h => ⟨[], r, rfl, trivial, h⟩
  | _ :: l, _, v :: r, ⟨h1, h2⟩ => by
    obtain ⟨r1, r2, rfl, h3, h4⟩ := CLR.split (l := l) h2
    exact ⟨v :: r1, r2, rfl, ⟨h1, h3⟩, h4⟩
  | _ :: _, _,[], h => h.elim
theorem CLR.take : ∀ {l : List C} {r : List Value} (n : Nat), CLR f N l r → CLR f N (l.take n) (r.take n)
  | _, _,0, _ => by simp [CLR]
  | [],[], _ + 1, _ => trivial
  | _ :: _, _ :: _, n + 1, ⟨h1, h2⟩ => ⟨h1, CLR.take n h2⟩
theorem CLR.drop : ∀ {l : List C} {r : List Value} (n : Nat), CLR f N l r → CLR f N (l.drop n) (r.drop n)
  | _, _,0, h => h
  | [],[], _ + 1, _ => trivial
  | _ :: _, _ :: _, n + 1, ⟨_, h2⟩ => CLR.drop n h2
theorem CLR.get : ∀ {l : List C} {r : List Value} {i : Nat} {c : C}, CLR f N l r → l[i]? = some c → ∃ v, r[i]? = some v ∧ CR f N c v
  | _ :: _, _ :: _,0, c, ⟨h1, _⟩, h => by simp at h; subst h; exact ⟨_, rfl, h1⟩
  | _ :: _, _ :: _, i + 1, c, ⟨_, h2⟩, h => by
    obtain ⟨v, h3, h4⟩ := CLR.get (i := i) h2 (by simpa using h)
    exact ⟨v, by simpa using h3, h4⟩
mutual
theorem TC.lvR : ∀ (c : TC) {r : List Value} {x : c.T}, c.R f r x ↔ CLR f N (c.lv x) r
  | .int k, r, n => ⟨fun h => by obtain rfl := (h : _ = _); exact ⟨rfl, trivial⟩, fun h => by
      match r, h with
      | [v], ⟨h1, _⟩ => exact congrArg (fun v => [v]) (h1 : v = _)⟩
  | .bool, r, n => ⟨fun h => by obtain rfl := (h : _ = _); exact ⟨rfl, trivial⟩, fun h => by
      match r, h with
      | [v], ⟨h1, _⟩ => exact congrArg (fun v => [v]) (h1 : v = _)⟩
  | .str, r, n => ⟨fun h => by obtain rfl := (h : _ = _); exact ⟨rfl, trivial⟩, fun h => by
      match r, h with
      | [v], ⟨h1, _⟩ => exact congrArg (fun v => [v]) (h1 : v = _)⟩
  | .sl e, r, xs => ⟨fun h => by
      obtain ⟨v, rfl, rows, h1, h2⟩ := h
      exact ⟨⟨rows, h1, zdc.1 h2⟩, trivial⟩, fun h => by
      match r, h with
      | [v], ⟨⟨rows, h1, h2⟩, _⟩ => exact ⟨v, rfl, rows, h1, zdc.2 h2⟩⟩
  | .nsl e, r, xs => ⟨fun h => by
      obtain ⟨v, rfl, ⟨rows, h1, h2⟩, h3⟩ := h
      exact ⟨⟨⟨rows, h1, zdc.1 h2⟩, h3⟩, trivial⟩, fun h => by
      match r, h with
      | [v], ⟨⟨⟨rows, h1, h2⟩, h3⟩, _⟩ => exact ⟨v, rfl, ⟨rows, h1, zdc.2 h2⟩, h3⟩⟩
  | .tr c, r, t => ⟨fun h => by
      cases h with
      | mk h1 h2 h3 h4 => exact (c.lvR.1 h1).app ⟨⟨_, h2, zdc.1 (zmy.2 ⟨h3, h4⟩)⟩, trivial⟩, fun h => by
      obtain ⟨r1, r2, rfl, h2, h3⟩ := CLR.split (l := c.lv t.x) h
      match r2, h3 with
      | [v], ⟨⟨rows, h4, h5⟩, _⟩ =>
        obtain ⟨h6, h7⟩ := zmy.1 (zdc.2 h5)
        cases t with
        | mk x kids => exact .mk (c.lvR.2 h2) h4 h6 h7⟩
  | .tn c, r, t => ⟨fun h => by
      cases h with
      | mk h1 h2 h3 h4 => exact (c.lvR.1 h1).app ⟨⟨_, h2, zdc.1 (zmy.2 ⟨h3, h4⟩)⟩, trivial⟩, fun h => by
      obtain ⟨r1, r2, rfl, h2, h3⟩ := CLR.split (l := c.lv t.x) h
      match r2, h3 with
      | [v], ⟨⟨rows, h4, h5⟩, _⟩ =>
        obtain ⟨h6, h7⟩ := zmy.1 (zdc.2 h5)
        cases t with
        | mk x kids => exact .mk (c.lvR.2 h2) h4 h6 h7⟩
  | .st l, r, x => l.lvR
theorem TL.lvR : ∀ (l : TL) {r : List Value} {x : l.T}, l.R f r x ↔ CLR f N (l.lv x) r
  | .nil, r, x => ⟨fun h => by obtain rfl := (h : _ = _); exact trivial, fun h => by
      match r, h with
      | [], _ => rfl⟩
  | .cons c l, r, x => ⟨fun h => by
      obtain ⟨r1, r2, rfl, h2, h3⟩ := h
      exact (c.lvR.1 h2).app (l.lvR.1 h3), fun h => by
      obtain ⟨r1, r2, rfl, h2, h3⟩ := CLR.split (l := c.lv x.1) h
      exact ⟨r1, r2, rfl, c.lvR.2 h2, l.lvR.2 h3⟩⟩
end
theorem TC.vR {c : TC} {x : c.T} {v : Value} : VR f N (c.v x) v ↔ (∃ r, c.R f r x ∧ v = if c.ag then .agg r.toArray else r.headD undef) := by
  cases c with
  | st l => exact ⟨fun ⟨vs, h1, h2⟩ => ⟨vs, l.lvR.2 h2, h1⟩, fun ⟨r, h1, h2⟩ => ⟨r, h2, l.lvR.1 h1⟩⟩
  | int k => exact ⟨fun h => ⟨[v], congrArg (fun v => [v]) (h : v = _), rfl⟩, fun ⟨r, h1, h2⟩ => by obtain rfl := (h1 : _ = _); exact h2⟩
  | bool => exact ⟨fun h => ⟨[v], congrArg (fun v => [v]) (h : v = _), rfl⟩, fun ⟨r, h1, h2⟩ => by obtain rfl := (h1 : _ = _); exact h2⟩
  | str => exact ⟨fun h => ⟨[v], congrArg (fun v => [v]) (h : v = _), rfl⟩, fun ⟨r, h1, h2⟩ => by obtain rfl := (h1 : _ = _); exact h2⟩
  | sl e => exact ⟨fun ⟨rows, h1, h2⟩ => ⟨[v], ⟨v, rfl, rows, h1, zdc.2 h2⟩, rfl⟩, fun ⟨r, ⟨u, h1, rows, h2, h3⟩, h4⟩ => by subst h1; subst h4; exact ⟨rows, h2, zdc.1 h3⟩⟩
  | nsl e => exact ⟨fun ⟨⟨rows, h1, h2⟩, h3⟩ => ⟨[v], ⟨v, rfl, ⟨rows, h1, zdc.2 h2⟩, h3⟩, rfl⟩, fun ⟨r, ⟨u, h1, ⟨rows, h2, h3⟩, h5⟩, h4⟩ => by subst h1; subst h4; exact ⟨⟨rows, h2, zdc.1 h3⟩, h5⟩⟩
  | tr c => exact ⟨fun ⟨vs, h1, h2⟩ => ⟨vs,(TC.lvR (.tr c)).2 h2, h1⟩, fun ⟨r, h1, h2⟩ => ⟨r, h2,(TC.lvR (.tr c)).1 h1⟩⟩
  | tn c => exact ⟨fun ⟨vs, h1, h2⟩ => ⟨vs,(TC.lvR (.tn c)).2 h2, h1⟩, fun ⟨r, h1, h2⟩ => ⟨r, h2,(TC.lvR (.tn c)).1 h1⟩⟩
theorem cI_inv {α : Type} {k : IntKind} {K : Int → Option α} {c : C} {r : α} (h : cI k K c = some r) : ∃ n, c = .i k n ∧ K n = some r := by
  cases c <;> first | (cases h; done) | skip
  rename_i k' n
  simp only [cI] at h
  cases q : kB k' k with
  | false => rw [q] at h; cases h
  | true => rw [q] at h; simp only [kB, decide_eq_true_eq] at q; subst q; exact ⟨n, rfl, h⟩
theorem cB_inv {α : Type} {K : Bool → Option α} {c : C} {r : α} (h : cB K c = some r) : ∃ n, c = .b n ∧ K n = some r := by
  cases c <;> first | (cases h; done) | exact ⟨_, rfl, h⟩
theorem cS_inv {α : Type} {K : ByteArray → Option α} {c : C} {r : α} (h : cS K c = some r) : ∃ n, c = .s n ∧ K n = some r := by
  cases c <;> first | (cases h; done) | exact ⟨_, rfl, h⟩
theorem ziq {α : Type} {c c' : TC} {xs : List c.T} {K : List c'.T → Option α} {r : α} (h : castL xs K = some r) : ∃ e : c = c', K (e ▸ xs) = some r := by
  unfold castL at h
  split at h
  · exact ⟨_, h⟩
  · cases h
theorem rd_tr {a : TC} {f : Fz} {v : Value} {rows : List (List Value)} (h : (TC.tn a).rd f v rows) : (TC.tr a).rd f v rows := ⟨h.1.le fn_le, trivial⟩
structure Wk (c c' : TC) (xs : List c.T) (ys : List c'.T) : Prop where
  k : c.k = c'.k
  len : xs.length = ys.length
  rw : ∀ f rows, RW c.ty f rows xs → RW c'.ty f rows ys
  ts : ∀ f v, TS c f v xs → TS c' f v ys
theorem Wk.refl {c : TC} {xs : List c.T} : Wk c c xs xs := ⟨rfl, rfl, fun _ _ h => h, fun _ _ h => h⟩
theorem zk2 {α : Type} {c c' : TC} {xs : List c.T} {K : List c'.T → Option α} {r : α} (h : castD xs K = some r) : ∃ ys, K ys = some r ∧ Wk c c' xs ys := by
  unfold castD at h
  split at h
  · rename_i a b xs K
    split at h
    · rename_i e
      have e' := TC.eq_ok e
      subst e'
      have hw : ∀ (f : Fz) (rows : List (List Value)) (xs : List (Tr a.T)), RW (TC.tn a).ty f rows xs → RW (TC.tr a).ty f rows xs := fun f rows xs h => zdc.1 ((zdc.2 h).mono fun r x (h : (TC.tn a).R f r x) => (TrR.mono (fun _ _ h => h) (fun _ _ h => rd_tr h) h : TrR (a.R f) ((TC.tr a).rd f) r x))
      exact ⟨xs, h, rfl, rfl, fun f rows h => hw f rows xs h, fun f v h => by
        obtain ⟨rows, h1, h2⟩ := h
        exact ⟨rows, rd_tr h1, hw f rows xs h2⟩⟩
    · cases h
  · obtain ⟨e, h'⟩ := ziq h
    subst e
    exact ⟨_, h', .refl⟩
theorem zw1 {α : Type} {c' : TC} {K : List c'.T → Option α} {c : C} {r : α} (h : cL c' K c = some r) : ∃ xs,(∀ f N v, CR f N c v → TS c' f v xs) ∧ K xs = some r := by
  cases c <;> first | (cases h; done) | skip
  · obtain ⟨ys, h', hw⟩ := zk2 h
    exact ⟨ys, fun f N v hv => hw.ts f v hv, h'⟩
  · exact ⟨[], fun f N v hv => by rw [show v = .slice none 0 0 from hv]; exact .nil, h⟩
theorem cNsl_inv {α : Type} {c' : TC} {K : List c'.T → Option α} {c : C} {r : α} (h : cNsl c' K c = some r) : ∃ xs,(c = .sn c' xs ∨ (c = .sl c' xs ∧ xs ≠ []) ∨ (c = .nl ∧ xs = [])) ∧ K xs = some r := by
  unfold cNsl at h
  split at h
  · obtain ⟨e, h'⟩ := ziq h
    subst e
    exact ⟨_, .inl rfl, h'⟩
  · split at h
    · cases h
    · obtain ⟨e, h'⟩ := ziq h
      subst e
      exact ⟨_, .inr (.inl ⟨rfl, by simp⟩), h'⟩
  · exact ⟨[], .inr (.inr ⟨rfl, rfl⟩), h⟩
  · cases h
mutual
theorem TC.mk_inv {α : Type} : ∀ (c : TC) {cs : List C} {K : c.T → List C → Option α} {r : α}, c.mk cs K = some r → ∃ x a b, cs = a ++ b ∧ K x b = some r ∧ a.length = c.k ∧ ∀ (f : Fz) (N : Nm) vs, CLR f N a vs → c.R f vs x
  | .int k, x :: l, K, r, h => by
    obtain ⟨n, rfl, h'⟩ := cI_inv (h : cI k (fun n => K n l) x = some r)
    exact ⟨n,[.i k n], l, rfl, h', rfl, fun f N vs hv => (TC.lvR (f := f) (N := N) (.int k)).2 hv⟩
  | .bool, x :: l, K, r, h => by
    obtain ⟨n, rfl, h'⟩ := cB_inv (h : cB (fun n => K n l) x = some r)
    exact ⟨n,[.b n], l, rfl, h', rfl, fun f N vs hv => (TC.lvR (f := f) (N := N) .bool).2 hv⟩
  | .str, x :: l, K, r, h => by
    obtain ⟨n, rfl, h'⟩ := cS_inv (h : cS (fun n => K n l) x = some r)
    exact ⟨n,[.s n], l, rfl, h', rfl, fun f N vs hv => (TC.lvR (f := f) (N := N) .str).2 hv⟩
  | .sl e, x :: l, K, r, h => by
    obtain ⟨xs, hx, h'⟩ := zw1 (h : cL e (fun n => K n l) x = some r)
    refine ⟨xs,[x], l, rfl, h', rfl, fun f N vs hv => ?_⟩
    match vs, hv with
    | [v], ⟨h1, _⟩ =>
      obtain ⟨rows, q1, q2⟩ := hx f N v h1
      exact ⟨v, rfl, rows, q1, zdc.2 q2⟩
  | .nsl e, x :: l, K, r, h => by
    obtain ⟨xs, hx, h'⟩ := cNsl_inv (h : cNsl e (fun n => K n l) x = some r)
    rcases hx with rfl | ⟨rfl, hn⟩ | ⟨rfl, rfl⟩
    · exact ⟨xs,[.sn e xs], l, rfl, h', rfl, fun f N vs hv => (TC.lvR (f := f) (N := N) (.nsl e)).2 hv⟩
    · refine ⟨xs,[.sl e xs], l, rfl, h', rfl, fun f N vs hv => ?_⟩
      match vs, hv with
      | [v], ⟨⟨rows, h1, h2⟩, _⟩ => exact ⟨v, rfl, ⟨rows, h1, zdc.2 h2⟩, fun e => absurd e hn⟩
    · refine ⟨[],[.nl], l, rfl, h', rfl, fun f N vs hv => ?_⟩
      match vs, hv with
      | [v], ⟨h1, _⟩ => exact ⟨v, rfl, ⟨[], by rw [show v = _ from h1]; exact e.rd_nil, trivial⟩, fun _ => h1⟩
  | .tr c, cs, K, r, h => by
    obtain ⟨x, a, b, rfl, h1, hk, h2⟩ := TC.mk_inv c (h : c.mk cs (fun x r => match r with
      | y :: r => cL (.tr c) (fun xs => K (.mk x xs) r) y
      | [] => none) = some r)
    cases b with
    | nil => cases h1
    | cons y b =>
      obtain ⟨xs, hx, h'⟩ := zw1 (h1 : cL (.tr c) (fun xs => K (.mk x xs) b) y = some r)
      refine ⟨.mk x xs, a ++ [y], b, by simp, h', by rw [List.length_append, hk]; rfl, fun f N vs hv => ?_⟩
      obtain ⟨r1, r2, rfl, g1, g2⟩ := CLR.split hv
      match r2, g2 with
      | [v], ⟨g3, _⟩ =>
        obtain ⟨rows, q1, q2⟩ := hx f N v g3
        obtain ⟨q3, q4⟩ := zmy.1 (zdc.2 q2)
        exact .mk (h2 f N _ g1) q1 q3 q4
  | .tn c, cs, K, r, h => by
    obtain ⟨x, a, b, rfl, h1, hk, h2⟩ := TC.mk_inv c (h : c.mk cs (fun x r => match r with
      | y :: r => cL (.tn c) (fun xs => K (.mk x xs) r) y
      | [] => none) = some r)
    cases b with
    | nil => cases h1
    | cons y b =>
      obtain ⟨xs, hx, h'⟩ := zw1 (h1 : cL (.tn c) (fun xs => K (.mk x xs) b) y = some r)
      refine ⟨.mk x xs, a ++ [y], b, by simp, h', by rw [List.length_append, hk]; rfl, fun f N vs hv => ?_⟩
      obtain ⟨r1, r2, rfl, g1, g2⟩ := CLR.split hv
      match r2, g2 with
      | [v], ⟨g3, _⟩ =>
        obtain ⟨rows, q1, q2⟩ := hx f N v g3
        obtain ⟨q3, q4⟩ := zmy.1 (zdc.2 q2)
        exact .mk (h2 f N _ g1) q1 q3 q4
  | .st l, cs, K, r, h => TL.mk_inv l (h : l.mk cs K = some r)
  | .int _,[], _, _, h => by cases h
  | .bool,[], _, _, h => by cases h
  | .str,[], _, _, h => by cases h
  | .sl _,[], _, _, h => by cases h
  | .nsl _,[], _, _, h => by cases h
theorem TL.mk_inv {α : Type} : ∀ (l : TL) {cs : List C} {K : l.T → List C → Option α} {r : α}, l.mk cs K = some r → ∃ x a b, cs = a ++ b ∧ K x b = some r ∧ a.length = l.k ∧ ∀ (f : Fz) (N : Nm) vs, CLR f N a vs → l.R f vs x
  | .nil, cs, K, r, h => ⟨(),[], cs, rfl, h, rfl, fun f N vs hv => by
      match vs, hv with
      | [], _ => rfl⟩
  | .cons c l, cs, K, r, h => by
    obtain ⟨x, a, b, rfl, h1, hk, h2⟩ := TC.mk_inv c (h : c.mk cs (fun x r => l.mk r fun y r => K (x, y) r) = some r)
    obtain ⟨y, a', b', rfl, h3, hk', h4⟩ := TL.mk_inv l h1
    refine ⟨(x, y), a ++ a', b', by simp, h3, by rw [List.length_append, hk, hk']; rfl, fun f N vs hv => ?_⟩
    obtain ⟨r1, r2, rfl, g1, g2⟩ := CLR.split hv
    exact ⟨r1, r2, rfl, h2 f N _ g1, h4 f N _ g2⟩
end
theorem TC.mkA_inv {α : Type} {c : TC} {cs : List C} {K : c.T → Option α} {r : α} (h : c.mkA cs K = some r) : ∃ x, K x = some r ∧ cs.length = c.k ∧ ∀ (f : Fz) (N : Nm) vs, CLR f N cs vs → c.R f vs x := by
  obtain ⟨x, a, b, rfl, h1, h2, h3⟩ := TC.mk_inv c h
  cases b with
  | nil => exact ⟨x, h1, by simpa using h2, by simpa using h3⟩
  | cons _ _ => cases h1
end
end Go.V
