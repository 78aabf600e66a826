/-
  Walks and laws of this seat; the base is the text Base.
-/
import Derived.Test.YthmnohdlhlmmpaaBasg
import Derived.Test.YthmnohdlhlmmpaaY4
namespace Go.Proofs.Ythmnohdlhlmmpaa
open Go.RowKit Go.Sl
/-- A token whose attributes are of the call's own. -/
def tO (f0 : Fz) : Ty mark_Token where
  k := 5
  R f r x := ∃ v0, r = [.int .i64 x.Kind, .string x.Name, .string x.Text, v0, .bool x.Closed] ∧ RS t_api_Attr f v0 x.Attrs ∧ OwnV f0 f v0 2 29
  mono := by
    rintro f f' r x h hf
    obtain ⟨v0, rfl, hv0, hO⟩ := h
    exact ⟨v0, rfl, hv0.le hf, hO.le hf⟩
  one := by
    rintro f r x h
    obtain ⟨v0, rfl, hv0, _⟩ := h
    exact AllC.row ⟨rfl, rfl, rfl, hv0.one, rfl, trivial⟩ rfl
/-- The block of a row's attributes. -/
def vblk : Value → Option Nat
  | .slice (some a) _ _ => some a.block
  | _ => none
def blkOf (r : List Value) : Option Nat := r[3]?.bind vblk
def ApartR (rows : List (List Value)) : Prop := rows.Pairwise fun r s => ∀ b, blkOf r = some b → blkOf s ≠ some b
/-- What is known of the row of tokens. -/
structure LQ where
  R : Fz → List (List Value) → List mark_Token → Prop
  mono : ∀ {f f' rows xs}, R f rows xs → Fz.le f f' → R f' rows xs
  len : ∀ {f rows xs}, R f rows xs → rows.length = xs.length
  chars : ∀ {f rows xs} (s : ByteArray), R f rows xs → R f (rows ++ [[.int .i64 1, .string (bs []), .string s, .slice none 0 0, .bool false]]) (xs ++ [({Kind := 1, Name := bs [], Text := s, Attrs := [], Closed := false} : mark_Token)])
section
variable {Q Q' : LQ} {f f' f0 : Fz} {rows rw : List (List Value)} {xs ys : List mark_Token}
theorem LQ.R.le (h : Q.R f rows xs) (hf : Fz.le f f') : Q.R f' rows xs := Q.mono h hf
def LQ.Add (Q Q' : LQ) (f : Fz) (rw : List (List Value)) (ys : List mark_Token) : Prop := rw.length = ys.length ∧ ∀ rows xs, Q.R f rows xs → Q'.R f (rows ++ rw) (xs ++ ys)
theorem LQ.R.append (h : Q.R f rows xs) (g : LQ.Add Q Q' f rw ys) : Q'.R f (rows ++ rw) (xs ++ ys) := g.2 _ _ h
theorem LQ.add (Q : LQ) (f : Fz) (s : ByteArray) : LQ.Add Q Q f [[.int .i64 1, .string (bs []), .string s, .slice none 0 0, .bool false]] [({Kind := 1, Name := bs [], Text := s, Attrs := [], Closed := false} : mark_Token)] := ⟨rfl, fun _ _ h => Q.chars s h⟩
theorem ApartR.snoc {r : List Value} (h : ApartR rows) (g : ∀ b, blkOf r = some b → ∀ s ∈ rows, blkOf s ≠ some b) : ApartR (rows ++ [r]) := by
  refine List.pairwise_append.2 ⟨h, List.pairwise_singleton _ _, fun s hs t ht b h1 h2 => ?_⟩
  rcases List.mem_singleton.1 ht with rfl
  exact g b h2 s hs h1
theorem RW.snoc {T : Ty mark_Token} {r : List Value} {x : mark_Token} (h : RW T f rows xs) (g : T.R f r x) : RW T f (rows ++ [r]) (xs ++ [x]) := h.append (RW.single g)
def LQ.own (f0 : Fz) : LQ where
  R f rows xs := RW (tO f0) f rows xs ∧ ApartR rows
  mono h hf := ⟨h.1.le hf, h.2⟩
  len h := h.1.len
  chars s h := ⟨RW.snoc h.1 ⟨_, rfl, RS.nil, .inl rfl⟩, h.2.snoc fun b hb => by simp [blkOf, vblk] at hb⟩
def LQ.at (Q : LQ) (f1 : Fz) : LQ where
  R f rows xs := Q.R f rows xs ∧ ∀ r ∈ rows, ∀ b, blkOf r = some b → f1 b ≠ none
  mono h hf := ⟨Q.mono h.1 hf, h.2⟩
  len h := Q.len h.1
  chars s h := ⟨Q.chars s h.1, fun r hr b hb => by
    rcases List.mem_append.1 hr with hr | hr
    · exact h.2 r hr b hb
    · rcases List.mem_singleton.1 hr with rfl
      simp [blkOf, vblk] at hb⟩
theorem tO.blk {r : List Value} {x : mark_Token} (h : (tO f0).R f r x) {b : Nat} (hb : blkOf r = some b) : f b ≠ none ∧ f0 b = none := by
  obtain ⟨v0, rfl, _, hO⟩ := h
  rcases hO with rfl | ⟨g, m, c, cur, rfl, _, _, _, h5, h6⟩
  · simp [blkOf, vblk] at hb
  · simp only [blkOf, vblk, Option.bind_some, List.getElem?_cons_succ, List.getElem?_cons_zero, Option.some.injEq] at hb
    subst hb
    exact ⟨by rw [h5]; simp, h6⟩
theorem RW.mem {T : Ty mark_Token} : ∀ {rows : List (List Value)} {xs : List mark_Token}, RW T f rows xs → ∀ r ∈ rows, ∃ x ∈ xs, T.R f r x
  | [], _, _, r, hr => by cases hr
  | r0 :: rows, x :: xs, ⟨h1, h2⟩, r, hr => by
    rcases List.mem_cons.1 hr with rfl | hr
    · exact ⟨x, by simp, h1⟩
    · obtain ⟨y, hy, h⟩ := RW.mem h2 r hr
      exact ⟨y, by simp [hy], h⟩
theorem LQ.R.here (h : (LQ.own f0).R f rows xs) : ((LQ.own f0).at f).R f rows xs := ⟨h, fun r hr b hb => by
  obtain ⟨x, _, hx⟩ := RW.mem h.1 r hr
  exact (tO.blk hx hb).1⟩
theorem LQ.addO {f1 : Fz} {r : List Value} {x : mark_Token} (h : (tO f1).R f r x) (h01 : Fz.le f0 f1) : LQ.Add ((LQ.own f0).at f1) (LQ.own f0) f [r] [x] := ⟨rfl, fun rows xs g => by
  have h2 := h
  obtain ⟨v0, hr, hv0, hO⟩ := h
  refine ⟨RW.snoc g.1.1 ⟨v0, hr, hv0, hO.base h01⟩, g.1.2.snoc fun b hb s hs e => ?_⟩
  exact g.2 s hs b e (tO.blk h2 hb).2⟩
theorem RW.forget : ∀ {rows : List (List Value)} {xs : List mark_Token}, RW (tO f0) f rows xs → RW t_mark_Token f rows xs
  | [], [], _ => trivial
  | _r0 :: _rows, _x :: _xs, ⟨⟨v0, h1, h3, _⟩, h2⟩ => ⟨⟨v0, h1, h3⟩, RW.forget h2⟩
  | [], _ :: _, h => h.elim
  | _ :: _, [], h => h.elim
end
end Go.Proofs.Ythmnohdlhlmmpaa
