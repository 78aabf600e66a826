/-
  Walks and laws of this seat.
-/
import Derived.Test.YteicdfkmpnmkmaaGreatPR
import Derived.Test.YteicdfkmpnmkmaaGreatPK
namespace Go.V
set_option linter.unusedVariables false
set_option linter.unusedSimpArgs false
set_option linter.unusedSectionVars false
set_option maxRecDepth 100000
open Go.RowKit Go.Sl
mutual
theorem yg5 : ∀ (b : BoxT) (n : Int), kyT (numB b n).1 = kyT b
  | .mk x ks, n => by
    rw [zrl, kyT, kyT, ky_numL ks]
theorem ky_numL : ∀ (l : List BoxT) (n : Int), kyL (numL l n).1 = kyL l
  | [], n => by rw [zpz]
  | b :: r, n => by
    rw [zp9, kyL, kyL, yg5 b]
end
mutual
theorem ygj : ∀ (b : BoxT) (n : Int),(fkT (numB b n).1).map kyT = (fkT b).map kyT
  | .mk x ks, n => by
    rw [zrl, fkT, fkT, List.map_append, List.map_append, ygk ks]
    congr 1
    cases ks with
    | nil => rw [zpz]
    | cons b r => rw [zp9]; simp [yg5]
theorem ygk : ∀ (l : List BoxT) (n : Int),(fkL (numL l n).1).map kyT = (fkL l).map kyT
  | [], n => by rw [zpz]
  | b :: r, n => by
    rw [zp9, fkL, fkL, List.map_append, List.map_append, ygj b, ygk r]
end
theorem yhl {b : BoxT} {n : Int} (h : apartB b = true) : apartB (numB b n).1 = true := by
  unfold apartB at h ⊢
  rw [ygj]; exact h
theorem T.bindT {α β : Type} {m : Nat → Nat → Option α} {G : Nat → Nat → α → Option β} {P : α → Prop} {Q : β → Prop} (h : T m P) (g : ∀ r, P r → T m (· = r) → T (fun k n => G k n r) Q) : T (fun k n => (m k n).bind fun r => G k n r) Q := by
  obtain ⟨r, h1, K, h2⟩ := h
  exact T.bindE ⟨r, rfl, K, h2⟩ (g r h1 ⟨r, rfl, K, h2⟩)
def KeptOK (t : TreT) (s : ByteArray) (y : BoxT × Bool) : Prop := y.2 = true → ∃ s2 l, T (fun _ _ => zk6 s 1500) (· = s2) ∧ T (fun k _ => zdw k t s2) (· = l) ∧ T (fun k _ => boxes_Build k t l.1) (· = (y.1, true)) ∧ apartB y.1 = true ∧ T (fun k _ => zc7 k y.1 y.1) (· = true)
theorem kept_T {t : TreT} (hb : BulkT t) {s : ByteArray} : T (fun k _ => zkg k t s) (KeptOK t s) := by
  have z0 : ∀ k, zk7 k = some (zBox, false) := fun _ => rfl
  have z1 : ∀ k, znk k = some (zBox, false) := fun _ => rfl
  have no : T (fun _ _ => some (zBox, false)) (KeptOK t s) := T.some (fun h => by cases h)
  unfold zkg
  simp only [z0, z1]
  refine T.dec (fun _ => no) fun hl => T.bind (whole_TT hb) fun r1 hr1 => T.bif (fun _ => no) fun hw => ?_
  obtain ⟨ht, h0, hk⟩ := hr1 (by simpa using hw)
  refine T.bind (brief_T ht.len) fun _ _ => T.bif (fun _ => no) fun _ => T.bindT (few_T (by decide)) fun r3 h3 hF => T.bindT (yeg ht (by omega)) fun r4 h4 hS => T.bif (fun _ => no) fun h4b => ?_
  obtain ⟨hs, _, hd⟩ := h4 (by simpa using h4b)
  refine T.bind (ksmall_T (by omega)) fun _ _ => T.bif (fun _ => no) fun _ => T.bindE (ybq ht h0 hk hs) (T.some ?_)
  have hP := yai ht h0 hk hs
  rw [Tr.eta]
  rw [yb8 hd] at hP
  cases hB : buildP isLev kdR t.1 r4.1 t.1.length 0 0 0 with
  | none => exact fun h => by cases h
  | some b =>
    rw [hB] at hP
    have hI := zph ht hk (fun b => yg3) h0 (e := t.1.length) (fun y hy => by
      obtain ⟨h1, r, hr⟩ := hy.pos
      have := (List.getElem?_eq_some_iff.1 hr).1
      omega) (by omega) hB
    have hn : (ndT b).Nodup := hI.srt.imp fun h e => by omega
    have ha : apartB b = true := decide_eq_true (ky_T b hI.gd hn).1
    have hsz := hI.sz
    intro _
    show ∃ s2 l, T (fun _ _ => zk6 s 1500) (· = s2) ∧ T (fun k _ => zdw k t s2) (· = l) ∧ T (fun k _ => boxes_Build k t l.1) (· = ((numB b 0).1, true)) ∧ apartB (numB b 0).1 = true ∧ T (fun k _ => zc7 k (numB b 0).1 (numB b 0).1) (· = true)
    exact ⟨r3, r4, hF, hS, hP, yhl ha, same_TE _ _ (Nat.le_refl _) (by rw [yft]; omega)⟩
end Go.V
