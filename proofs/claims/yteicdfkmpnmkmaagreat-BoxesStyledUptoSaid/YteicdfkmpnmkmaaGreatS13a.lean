/-
  Walks and laws of this seat.
-/
import Derived.Test.YteicdfkmpnmkmaaGreatT13
import Derived.Test.YteicdfkmpnmkmaaGreatBasg
import Derived.Test.YteicdfkmpnmkmaaGreatRows
namespace Go.Proofs.YteicdfkmpnmkmaaGreat
set_option linter.unusedVariables false
set_option linter.unusedSimpArgs false
open Go.RowKit Go.Sl
abbrev Sty := List Value
def intAt (s : Sty) (i : Nat) : Int := match s[i]? with | some (Value.int _ z) => z | _ => 0
def dispS (s : Sty) : Int := intAt s 0
def posS (s : Sty) : Int := intAt s 1
def floS (s : Sty) : Int := intAt s 2
def preS (s : Sty) : Bool := match s[41]? with | some (Value.bool b) => b | _ => false
structure StyOK (s : Sty) : Prop where
  len : s.length = 52
  one : ∀ x ∈ s, x.oneCell' = true
  d : s[0]? = some (.int .i64 (dispS s))
  p : s[1]? = some (.int .i64 (posS s))
  f : s[2]? = some (.int .i64 (floS s))
  pre : s[41]? = some (.bool (preS s))
inductive BT where
  | mk (kind node idx : Int) (sty : Sty) (text : ByteArray) (kids : List BT)
namespace BT
set_option linter.unusedVariables false
set_option linter.unusedSimpArgs false
def kind : BT → Int | mk k _ _ _ _ _ => k
def node : BT → Int | mk _ n _ _ _ _ => n
def idx : BT → Int | mk _ _ i _ _ _ => i
def sty : BT → Sty | mk _ _ _ s _ _ => s
def text : BT → ByteArray | mk _ _ _ _ t _ => t
end BT
def cB (k n i : Int) (s : Sty) (t : ByteArray) (kv : Value) : List Value := [.int .i64 k, .int .i64 n, .int .i64 i] ++ (s ++ [.string t, kv])
section
variable {k n i : Int} {s : Sty} {t : ByteArray} {kv : Value}
theorem cB_len (h : s.length = 52) : (cB k n i s t kv).length = 57 := by simp [cB, h]
theorem cB_sty {j : Nat} (h : s.length = 52) (hj : j < 52) : (cB k n i s t kv)[3 + j]? = s[j]? := by
  unfold cB
  rw [List.getElem?_append_right (by simp), List.getElem?_append_left (by simp; omega)]
  simp
theorem cB_text (h : s.length = 52) : (cB k n i s t kv)[55]? = some (.string t) := by
  unfold cB
  rw [List.getElem?_append_right (by simp), List.getElem?_append_right (by simp; omega)]
  simp [h]
theorem cB_kids (h : s.length = 52) : (cB k n i s t kv)[56]? = some kv := by
  unfold cB
  rw [List.getElem?_append_right (by simp), List.getElem?_append_right (by simp; omega)]
  simp [h]
theorem cB_one (h : StyOK s) (hk : kv.oneCell' = true) : OneRow 57 (cB k n i s t kv) := ⟨cB_len h.len, fun x hx => by
  simp only [cB, List.mem_append, List.mem_cons, List.not_mem_nil, or_false] at hx
  rcases hx with (rfl | rfl | rfl) | hx | rfl | rfl
  · rfl
  · rfl
  · rfl
  · exact h.one x hx
  · rfl
  · exact hk⟩
theorem cB_set0 {k' : Int} : (cB k n i s t kv).set 0 (.int .i64 k') = cB k' n i s t kv := rfl
theorem cB_setS {j : Nat} {v : Value} (h : s.length = 52) (hj : j < 52) : (cB k n i s t kv).set (3 + j) v = cB k n i (s.set j v) t kv := by
  unfold cB
  rw [List.set_append_right _ _ (by simp), List.set_append_left _ _ (by simp; omega)]
  simp
theorem cB_setK {v : Value} (h : s.length = 52) : (cB k n i s t kv).set 56 v = cB k n i s t v := by
  unfold cB
  rw [List.set_append_right _ _ (by simp), List.set_append_right _ _ (by simp; omega)]
  simp [h]
theorem cB_setT {t' : ByteArray} (h : s.length = 52) : (cB k n i s t kv).set 55 (.string t') = cB k n i s t' kv := by
  unfold cB
  rw [List.set_append_right _ _ (by simp), List.set_append_right _ _ (by simp; omega)]
  simp [h]
end
mutual
/-- A box's cells, the row of its kids, and what lies below them. -/
def BoxO (e : TypeId) : BT → List Value → List Ent → Prop
  | .mk k n i s t ks, r, X => StyOK s ∧ ∃ kv rows X', r = cB k n i s t kv ∧ X = .row kv e 57 rows :: X' ∧ OwnL e ks rows X'
/-- The same of boxes, row by row. -/
def OwnL (e : TypeId) : List BT → List (List Value) → List Ent → Prop
  | [], rows, X => rows = [] ∧ X = []
  | b :: bs, rows, X => ∃ r rs X1 X2, rows = r :: rs ∧ X = X1 ++ X2 ∧ BoxO e b r X1 ∧ OwnL e bs rs X2
end
theorem OwnL.len {e : TypeId} : ∀ {bs : List BT} {rows : List (List Value)} {X : List Ent}, OwnL e bs rows X → rows.length = bs.length
  | [], _, _, h => by rw [h.1]; rfl
  | b :: bs, _, _, h => by
    obtain ⟨r, rs, X1, X2, rfl, _, _, h⟩ := h
    rw [List.length_cons, List.length_cons, OwnL.len h]
theorem OwnL.append {e : TypeId} : ∀ {bs cs : List BT} {rows rows2 : List (List Value)} {X X2 : List Ent}, OwnL e bs rows X → OwnL e cs rows2 X2 → OwnL e (bs ++ cs) (rows ++ rows2) (X ++ X2)
  | [], _, _, _, _, _, h, h2 => by rw [h.1, h.2]; exact h2
  | b :: bs, _, _, _, _, _, h, h2 => by
    obtain ⟨r, rs, X1, X3, rfl, rfl, h1, h⟩ := h
    exact ⟨r, rs ++ _, X1, X3 ++ _, rfl, by rw [List.append_assoc], h1, OwnL.append h h2⟩
theorem OwnL.one {e : TypeId} {b : BT} {r : List Value} {X : List Ent} (h : BoxO e b r X) : OwnL e [b] [r] X := ⟨r, [], X, [], rfl, by simp, h, rfl, rfl⟩
theorem OwnL.at {e : TypeId} : ∀ {bs : List BT} {rows : List (List Value)} {X : List Ent} {j : Nat} {b : BT}, OwnL e bs rows X → bs[j]? = some b → ∃ r X1 X2 X3, rows[j]? = some r ∧ X = X1 ++ (X2 ++ X3) ∧ OwnL e (bs.take j) (rows.take j) X1 ∧ BoxO e b r X2 ∧ OwnL e (bs.drop (j + 1)) (rows.drop (j + 1)) X3
  | [], _, _, _, _, _, h => by simp at h
  | c :: bs, _, _, 0, b, h, hb => by
    obtain ⟨r, rs, X1, X2, rfl, rfl, h1, h2⟩ := h
    simp at hb
    subst hb
    exact ⟨r, [], X1, X2, rfl, rfl, ⟨rfl, rfl⟩, h1, h2⟩
  | c :: bs, _, _, j + 1, b, h, hb => by
    obtain ⟨r, rs, X1, X2, rfl, rfl, h1, h2⟩ := h
    simp only [List.getElem?_cons_succ] at hb
    obtain ⟨r', Y1, Y2, Y3, e1, rfl, e3, e4, e5⟩ := OwnL.at h2 hb
    refine ⟨r', X1 ++ Y1, Y2, Y3, by simpa using e1, by simp, ⟨r, _, X1, Y1, rfl, rfl, h1, e3⟩, e4, ?_⟩
    simpa using e5
end Go.Proofs.YteicdfkmpnmkmaaGreat
