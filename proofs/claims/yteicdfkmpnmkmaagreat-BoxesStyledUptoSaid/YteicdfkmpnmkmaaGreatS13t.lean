/-
  Walks and laws of this seat.
-/
import Derived.Test.YteicdfkmpnmkmaaGreatS13s
import Derived.Test.YteicdfkmpnmkmaaGreatL13b
namespace Go.Proofs.YteicdfkmpnmkmaaGreat
set_option linter.unusedVariables false
set_option linter.unusedSimpArgs false
open Go.RowKit Go.Sl
def StyTy (s : Sty) : Prop := ∃ x, t_api_Style.R (fun _ => none) s x
theorem StyTy.set0 {s : Sty} (h : StyTy s) (d : Int) : StyTy (s.set 0 (.int .i64 d)) := by
  obtain ⟨x, h⟩ := h
  obtain rfl := h
  exact ⟨{ x with Display := d }, rfl⟩
theorem StyTy.set1 {s : Sty} (h : StyTy s) (d : Int) : StyTy (s.set 1 (.int .i64 d)) := by
  obtain ⟨x, h⟩ := h
  obtain rfl := h
  exact ⟨{ x with Position := d }, rfl⟩
theorem StyTy.set2 {s : Sty} (h : StyTy s) (d : Int) : StyTy (s.set 2 (.int .i64 d)) := by
  obtain ⟨x, h⟩ := h
  obtain rfl := h
  exact ⟨{ x with Float := d }, rfl⟩
theorem StyTy.first {s : Sty} (h : StyTy s) : StyTy (firstS s) := by
  obtain ⟨x, h⟩ := h
  obtain rfl := h
  exact ⟨⟨0, 0, 0, 0, ⟨0, 0⟩, ⟨0, 0⟩, ⟨⟨1, 0⟩, ⟨1, 0⟩, ⟨1, 0⟩, ⟨1, 0⟩⟩, ⟨⟨1, 0⟩, ⟨1, 0⟩, ⟨1, 0⟩, ⟨1, 0⟩⟩, ⟨⟨0, 0⟩, ⟨0, 0⟩, ⟨0, 0⟩, ⟨0, 0⟩⟩, ⟨0, 0, 0, 0⟩, x.Color, 0, x.Size, x.Line, x.Align, x.Pre, x.Hidden, false, false, 0, 1, 0, 0, 4, 0, false⟩, rfl⟩
theorem StyTy.anon {s : Sty} (h : StyTy s) (g : Int) : StyTy (anonS g s) := by
  unfold anonS
  repeat' split
  · exact h.first.set0 _
  · exact h.first.set0 _
  · exact h.first.set0 _
  · exact h.first
theorem StyTy.ok {s : Sty} (h : StyTy s) : StyOK s := by
  obtain ⟨x, h⟩ := h
  obtain rfl := h
  exact ⟨rfl, (t_api_Style.one (f := (fun _ => none)) rfl).2, rfl, rfl, rfl, rfl⟩
mutual
/-- All styles of a box are styles. -/
def TyB : BT → Prop
  | .mk _ _ _ s _ ks => StyTy s ∧ TyL ks
def TyL : List BT → Prop
  | [] => True
  | b :: bs => TyB b ∧ TyL bs
end
theorem TyL.iff : ∀ {l : List BT}, TyL l ↔ ∀ b ∈ l, TyB b
  | [] => by simp [TyL]
  | b :: bs => by rw [TyL, TyL.iff]; simp
theorem TyL.append {l m : List BT} (h : TyL l) (h2 : TyL m) : TyL (l ++ m) := by
  rw [TyL.iff] at *
  intro b hb
  rcases List.mem_append.1 hb with hb | hb
  · exact h b hb
  · exact h2 b hb
theorem TyL.one {b : BT} (h : TyB b) : TyL [b] := by simp [TyL, h]
section
variable {an : List BT → BT} {plain : Bool} {p : Int → Bool}
theorem TyL.ending {out run : List BT} (han : ∀ r, TyL r → TyB (an r)) (h : TyL out) (h2 : TyL run) : TyL (endM an plain out run) := by
  unfold endM
  split
  · exact h
  · exact h.append (.one (han _ h2))
theorem TyL.go (han : ∀ r, TyL r → TyB (an r)) : ∀ {l out run : List BT}, TyL l → TyL out → TyL run → TyL (goM an plain p l out run)
  | [], _, _, _, h2, h3 => h2.ending han h3
  | x :: xs, out, run, h1, h2, h3 => by
    rw [TyL] at h1
    rw [goM]
    split
    · exact TyL.go han h1.2 h2 (h3.append (.one h1.1))
    · exact TyL.go han h1.2 ((h2.ending han h3).append (.one h1.1)) trivial
theorem TyL.wrap (han : ∀ r, TyL r → TyB (an r)) {l : List BT} (h : TyL l) : TyL (wrapM an plain p l) := TyL.go han h trivial trivial
end
section
variable {s : Sty} {l : List BT} {p : Int → Bool}
theorem TyB.anonB (hs : StyTy s) (h : TyL l) : TyB (anonB s l) := ⟨hs.anon 1, h⟩
theorem TyL.wrapB (hs : StyTy s) (h : TyL l) : TyL (wrapB p s l) := h.wrap fun _ h => .anonB hs h
theorem TyB.anonC (hs : StyTy s) (h : TyL l) : TyB (anonC s l) := ⟨hs.anon 5, by split; exact h.wrapB (hs.anon 5); exact h⟩
theorem TyL.wrapC (hs : StyTy s) (h : TyL l) : TyL (wrapC s l) := h.wrap fun _ h => .anonC hs h
theorem TyB.anonR (hs : StyTy s) (h : TyL l) : TyB (anonR s l) := ⟨hs.anon 4, h.wrapC (hs.anon 4)⟩
theorem TyL.wrapR (hs : StyTy s) (h : TyL l) : TyL (wrapR s l) := h.wrap fun _ h => .anonR hs h
theorem TyL.fit {k : Int} (hs : StyTy s) (h : TyL l) : TyL (fitL k s l) := by
  unfold fitL
  repeat' split
  · exact h.wrapR hs
  · exact h.wrapC hs
  · exact h.wrapB hs
  · exact h.wrapB hs
  · exact h
end
theorem StyTy.sty {s : Sty} (h : StyTy s) (above heavy : Int) : StyTy (styM s above heavy) := by
  have h1 : StyTy (sty1 s heavy) := by
    unfold sty1
    split
    · exact h.set1 _
    · exact h
  unfold styM
  split
  · exact h1.set2 _
  · exact h1
theorem buildM_ty {ns : List api_Node} {ss : List Sty} (hss : ∀ s ∈ ss, StyTy s) (hsl : ss.length = ns.length) : ∀ {d n : Nat} {above heavy : Int} {b : BT}, buildM ns ss d n above heavy = some b → n < ns.length → (∀ i < ns.length, ∀ c ∈ kd ns i, ∃ m : Nat, c = m ∧ m < ns.length) → TyB b
  | 0, _, _, _, _, h, _, _ => by simp [buildM] at h
  | d + 1, n, above, heavy, b, h, hn, hk => by
    have hs : StyTy (ss.getD n []) := by
      rw [List.getD_eq_getElem?_getD, List.getElem?_eq_getElem (by omega)]
      exact hss _ (List.getElem_mem _)
    rw [buildM] at h
    split at h
    · injection h with h; subst h; exact ⟨hs, trivial⟩
    · split at h
      · cases h
      · split at h
        · injection h with h; subst h; exact ⟨hs, trivial⟩
        · injection h with h; subst h
          refine ⟨hs.sty _ _, TyL.fit (hs.sty _ _) (TyL.iff.2 fun b hb => ?_)⟩
          obtain ⟨c, h1, h2⟩ := List.mem_filterMap.1 hb
          obtain ⟨m, rfl, hm⟩ := hk n hn c h1
          exact buildM_ty hss hsl h2 hm hk
mutual
theorem numB_ty : ∀ (b : BT) (n : Int), TyB b → TyB (numB b n).1
  | .mk k m i s t ks, n, h => by rw [numB_mk]; exact ⟨h.1, numL_ty ks _ h.2⟩
theorem numL_ty : ∀ (l : List BT) (n : Int), TyL l → TyL (numL l n).1
  | [], n, _ => by rw [numL_nil]; trivial
  | b :: bs, n, h => by rw [numL_cons]; exact ⟨numB_ty b n h.1, numL_ty bs _ h.2⟩
end
end Go.Proofs.YteicdfkmpnmkmaaGreat
