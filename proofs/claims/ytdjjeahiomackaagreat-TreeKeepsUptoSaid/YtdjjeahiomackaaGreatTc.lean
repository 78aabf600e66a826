/-
  Walks and laws of this seat.
-/
import Derived.Test.YtdjjeahiomackaaGreatTb
namespace Go.Proofs.YtdjjeahiomackaaGreat
set_option linter.unusedVariables false
set_option linter.unusedSimpArgs false
set_option linter.unusedSectionVars false
section
open Go.RowKit Go.Sl
open Go.V (T TreT NodT AttT zbk zeg zbh zem zd8 ze0 zfi)
theorem alone_T (r : zal) : T (fun k _ => dom_alone k r) fun _ => True := by
  unfold dom_alone
  refine T.dec (fun _ => T.some trivial) fun _ => T.bif (fun _ => T.some trivial) fun h => ?_
  have hl : r.Attrs.length ≤ 64 := by simp at h; omega
  have key : ∀ (m j : Nat) (y : List (ByteArray × Int)), r.Attrs.length - j ≤ m → T (fun _ n => zci r n y j) fun _ => True := by
    intro m
    induction m with
    | zero =>
      intro j y h
      refine T.step ?_
      unfold zci
      exact T.dec (fun _ => by omega) fun _ => T.some trivial
    | succ m ih =>
      intro j y h
      refine T.step ?_
      unfold zci zh3
      refine T.dec (fun hj => ?_) fun _ => T.some trivial
      have hj : j < r.Attrs.length := by omega
      have nx : ∀ y, T (fun _ n => zci r n y (w64 ((j : Int) + 1))) fun _ => True := fun y => by
        rw [zcj (by omega)]; exact ih (j + 1) y (by omega)
      exact T.getN (List.getElem?_eq_getElem hj) (T.dec (fun _ => T.bif (fun _ => T.some trivial) fun _ => nx _) fun _ => T.bif (fun _ => T.some trivial) fun _ => nx _)
  exact T.diag (F := fun _ n => zci r n [] 0) (key _ 0 [] (Nat.le_refl _))
theorem T.rep {α β : Type} {b : Nat} {N : Nat} {x : α} {G : Nat → Nat → List α → Option β} {Q : β → Prop} (h : b * N ≤ 281474976710656) (h' : N ≤ 9223372036854775807) (g : T (fun k n => G k n (List.replicate N x)) Q) : T (fun k n => (repM b (N : Int) x).bind fun r => G k n r) Q := by
  have e : repM b (N : Int) x = some (List.replicate N x) := by simp [repM, h, h']
  rw [e]; exact g
def In (N : Nat) (l : List Int) : Prop := ∀ x ∈ l, ∃ c : Nat, x = c ∧ c < N
def InO (N : Nat) (l : List Int) : Prop := l.length = N ∧ ∀ x ∈ l, x = -1 ∨ ∃ c : Nat, x = c ∧ c < N
theorem InO.set {N : Nat} {l : List Int} (h : InO N l) {i : Nat} {y : Int} (hy : y = -1 ∨ ∃ c : Nat, y = c ∧ c < N) : InO N (l.set i y) :=
  ⟨by rw [List.length_set]; exact h.1, fun x hx => (List.mem_or_eq_of_mem_set hx).elim (h.2 x) fun e => e ▸ hy⟩
def ParIn (ns : List NodT) (i : Nat) : Prop := ∀ (j : Nat) (x : NodT), i ≤ j → 0 < j → ns[j]? = some x → ∃ c : Nat, x.2.2.2.2.1 = c ∧ c < ns.length
section
variable {t : TreT} (hl : t.1.length ≤ 5000)
include hl
theorem zu0 {v : List Int} (hv : InO t.1.length v) : ∀ (m i : Nat), t.1.length - i ≤ m → T (fun k n => zbh k n t v t.1 (t.1.length : Int) i) fun _ => True := by
  intro m
  induction m with
  | zero =>
    intro i h1
    refine T.step ?_
    unfold zbh
    exact T.dec (fun _ => by omega) fun _ => T.some trivial
  | succ m ih =>
    intro i h1
    refine T.step ?_
    unfold zbh
    refine T.dec (fun hi => ?_) fun _ => T.some trivial
    have hi : i < t.1.length := by omega
    have hvl := hv.1
    have nx : T (fun k n => zbh k n t v t.1 (t.1.length : Int) (w64 ((i : Int) + 1))) fun _ => True := by
      rw [zcj (by omega)]; exact ih (i + 1) (by omega)
    have gv : v[i]? = some v[i] := List.getElem?_eq_getElem (by omega)
    have tail : T (fun k n => (geti v (i : Int)).bind fun r26 => bif decide (r26 ≠ (-1)) then (geti v (i : Int)).bind fun r27 => (geti t.1 r27).bind fun r28 => (bif decide (r28.2.2.2.2.2.2.2.2.1 ≠ (-1)) then some false else zbh k n t v t.1 (t.1.length : Int) (w64 ((i : Int) + 1))) else zbh k n t v t.1 (t.1.length : Int) (w64 ((i : Int) + 1))) fun _ => True := by
      refine T.getN gv (T.dec (fun hne => T.getN gv ?_) fun _ => nx)
      rcases hv.2 _ (List.getElem_mem (show i < v.length by omega)) with e | ⟨c, e, hc⟩
      · exact absurd e hne
      · rw [e]
        exact T.getN (List.getElem?_eq_getElem hc) (T.dec (fun _ => T.some trivial) fun _ => nx)
    exact T.getN (List.getElem?_eq_getElem hi) (T.getN gv (T.dec (fun _ => T.some trivial) fun _ => T.getN gv (T.dec (fun _ => T.dec (fun _ => T.some trivial) fun _ => tail) fun _ => tail)))
theorem zjt {v st : List Int} {i : Nat} {x : NodT} (hx : t.1[i]? = some x) (hv : InO t.1.length v) (hs : In t.1.length st) (hsl : st.length ≤ i) (hp : st = [] ∨ ∃ c : Nat, x.2.2.2.2.1 = c ∧ c < t.1.length)
    (nx : ∀ st' v', In t.1.length st' → st'.length ≤ i + 1 → InO t.1.length v' → T (fun k n => zbk k n t st' v' t.1 (t.1.length : Int) ((i + 1 : Nat) : Int)) fun b => b = true → ParIn t.1 (i + 1)) :
    T (fun k n => zem k (zbk k n) st v x t i t.1 (t.1.length : Int) i) fun b => b = true → ParIn t.1 i := by
  have hil := (List.getElem?_eq_some_iff.1 hx).1
  unfold zem
  refine T.dec (fun _ => T.some fun h => by cases h) fun hne => ?_
  rcases hp with rfl | ⟨c, hc, hcl⟩
  · exact absurd rfl hne
  have hvl := hv.1
  have gv : v[c]? = some v[c] := List.getElem?_eq_getElem (by omega)
  have fin : T (fun k n => zd8 k (zbk k n) v x st i t t.1 (t.1.length : Int) i) fun b => b = true → ParIn t.1 i := by
    unfold zd8
    rw [hc]
    have go : ∀ st', In t.1.length st' → st'.length ≤ i + 1 → T (fun k n => zbk k n t st' (v.set (c : Int).toNat i) t.1 (t.1.length : Int) (w64 ((i : Int) + 1))) fun b => b = true → ParIn t.1 i := fun st' h1 h2 => by
      rw [zcj (by omega)]
      refine (nx st' _ h1 h2 (hv.set (.inr ⟨i, rfl, hil⟩))).mono fun b hb e j y h3 h4 h5 => ?_
      by_cases ej : j = i
      · subst ej
        rw [hx] at h5; cases h5
        exact ⟨c, hc, hcl⟩
      · exact hb e j y (by omega) h4 h5
    refine T.getN gv (T.getN gv (T.dec (fun _ => T.app (by simp; omega) (by simp; omega) (go _ (fun y hy => ?_) (by simp; omega))) fun _ => go _ hs (by omega)))
    rcases List.mem_append.1 hy with hy | hy
    · exact hs y hy
    · exact ⟨i, List.mem_singleton.1 hy, hil⟩
  have at_ : ∀ {G : Nat → Nat → NodT → Option Bool} {Q : Bool → Prop} (_ : x.2.2.2.2.2.2.2.1 = v[c]) (_ : x.2.2.2.2.2.2.2.1 ≠ -1) (_ : ∀ y, T (fun k n => G k n y) Q), T (fun k n => (geti t.1 x.2.2.2.2.2.2.2.1).bind fun r => G k n r) Q := fun e1 e2 g => by
    rcases hv.2 _ (List.getElem_mem (show c < v.length by omega)) with e | ⟨d, e, hd⟩
    · exact absurd (e1.trans e) e2
    · rw [e1.trans e]
      exact T.getN (List.getElem?_eq_getElem hd) (g _)
  rw [hc]
  refine T.getN gv (T.getN gv (T.dec (fun _ => T.some fun h => by cases h) fun e1 => ?_))
  have e1 : x.2.2.2.2.2.2.2.1 = v[c] := Decidable.not_not.1 e1
  refine T.dec (fun h1 => T.getN (List.getElem?_eq_getElem hcl) (T.dec (fun _ => T.some fun h => by cases h) fun _ => T.dec (fun h2 => absurd h1 h2) fun _ => fin)) fun h1 => T.dec (fun h2 => at_ e1 h2 fun y => T.dec (fun _ => T.some fun h => by cases h) fun _ => fin) fun _ => fin
theorem zv8 : ∀ (m i : Nat), t.1.length - i ≤ m → ∀ (st v : List Int), In t.1.length st → st.length ≤ i → InO t.1.length v → T (fun k n => zbk k n t st v t.1 (t.1.length : Int) i) fun b => b = true → ParIn t.1 i := by
  have fin : ∀ (i : Nat) (v : List Int), t.1.length ≤ i → InO t.1.length v → T (fun k n => zbh k n t v t.1 (t.1.length : Int) 0) fun b => b = true → ParIn t.1 i := fun i v h hv =>
    (zu0 hl hv _ 0 (Nat.le_refl _)).mono fun _ _ _ j x h1 _ h2 => absurd (List.getElem?_eq_some_iff.1 h2).1 (by omega)
  intro m
  induction m with
  | zero =>
    intro i h st v hs hsl hv
    refine T.step ?_
    unfold zbk
    exact T.dec (fun _ => by omega) fun _ => fin i v (by omega) hv
  | succ m ih =>
    intro i h st v hs hsl hv
    refine T.step ?_
    unfold zbk
    refine T.dec (fun hi => ?_) fun _ => fin i v (by omega) hv
    have hi : i < t.1.length := by omega
    have hvl := hv.1
    have gv : v[i]? = some v[i] := List.getElem?_eq_getElem (by omega)
    have hx := List.getElem?_eq_getElem hi
    have hv' : InO t.1.length (v.set i (-1)) := hv.set (.inl rfl)
    refine T.getN hx (T.getN gv (T.getN gv (T.bind (P := fun _ => True) ?_ fun r6 _ => T.bif (fun _ => T.some fun h => by cases h) fun _ => T.dec (fun h0 => ?_) fun h0 => ?_)))
    · exact alone_T (toN _)
    · have h0 : i = 0 := by omega
      subst h0
      rw [Nat.sub_zero] at h
      refine T.app (by simp; omega) (by simp; omega) ?_
      rw [show w64 (((0 : Nat) : Int) + 1) = ((1 : Nat) : Int) from rfl]
      refine (ih 1 (by omega) _ _ (fun y hy => ?_) (by rw [List.length_append]; exact Nat.succ_le_succ hsl) hv').mono fun b hb e j y h1 h2 h3 => hb e j y (by omega) h2 h3
      rcases List.mem_append.1 hy with hy | hy
      · exact hs y hy
      · exact ⟨0, List.mem_singleton.1 hy, hi⟩
    · have nx : ∀ st' v', In t.1.length st' → st'.length ≤ i + 1 → InO t.1.length v' → T (fun k n => zbk k n t st' v' t.1 (t.1.length : Int) ((i + 1 : Nat) : Int)) fun b => b = true → ParIn t.1 (i + 1) := fun st' v' h1 h2 h3 => ih (i + 1) (by omega) st' v' h1 h2 h3
      have key : ∀ (e : Nat) (st : List Int), st.length ≤ e → In t.1.length st → st.length ≤ i → T (fun k n => zeg k n t st (v.set i (-1)) i t.1[i] t.1 (t.1.length : Int) i) fun b => b = true → ParIn t.1 i := by
        intro e
        induction e with
        | zero =>
          intro st he hs hsl
          refine T.step ?_
          unfold zeg
          exact T.dec (fun _ => by omega) fun _ => zjt hl hx hv' hs hsl (.inl (List.eq_nil_of_length_eq_zero (by omega))) nx
        | succ e ihe =>
          intro st he hs hsl
          refine T.step ?_
          unfold zeg
          refine T.dec (fun h1 => ?_) fun h1 => zjt hl hx hv' hs hsl (.inl (List.eq_nil_of_length_eq_zero (by omega))) nx
          rw [w64n (by omega), show ((st.length : Int) - 1) = ((st.length - 1 : Nat) : Int) by omega]
          have gs : st[st.length - 1]? = some st[st.length - 1] := List.getElem?_eq_getElem (by omega)
          refine T.getN gs (T.getN gs (T.dec (fun _ => T.cut (by omega) (by omega) (by omega) fun r hr hrl => ?_) fun e => ?_))
          · refine ihe r (by omega) (fun y hy => ?_) (by omega)
            rw [hr] at hy
            exact hs y (List.mem_of_mem_take (List.mem_of_mem_drop hy))
          · refine zjt hl hx hv' hs hsl (.inr ?_) nx
            obtain ⟨c, h1, h2⟩ := hs _ (List.getElem_mem (show st.length - 1 < st.length by omega))
            exact ⟨c,(Decidable.not_not.1 e).symm.trans h1, h2⟩
      exact key _ st (Nat.le_refl _) hs hsl
theorem linked_T (h0 : 0 < t.1.length) : T (fun k _ => Go.V.dom_linked k t) fun b => b = true → ParIn t.1 0 := by
  unfold Go.V.dom_linked Go.V.dom_linked_h
  refine T.getN (i := 0) (List.getElem?_eq_getElem h0) (T.dec (fun _ => T.some fun h => by cases h) fun _ => T.dec (fun _ => T.some fun h => by cases h) fun _ => T.dec (fun _ => T.some fun h => by cases h) fun _ => T.dec (fun _ => T.some fun h => by cases h) fun _ => ?_)
  refine T.rep (by omega) (by omega) ?_
  exact T.diag (F := fun k n => zbk k n t [] (List.replicate t.1.length 0) t.1 (t.1.length : Int) 0) (zv8 hl _ 0 (Nat.le_refl _) [] _ (fun y hy => by cases hy) (by simp) ⟨by simp, fun y hy => .inr ⟨0, List.eq_of_mem_replicate hy, h0⟩⟩)
end
theorem Right_T {t : TreT} (hl : t.1.length ≤ 5000) : T (fun k _ => Go.V.dom_Right k t) fun e => e = 0 → t.1.length ≤ 4096 := by
  unfold Go.V.dom_Right Go.V.dom_Right_h
  refine T.dec (fun _ => T.some fun h => by cases h) fun h0 => T.dec (fun _ => T.some fun h => by cases h) fun hs => T.bind (linked_T hl (by omega)) fun r hr => T.bif (fun _ => T.some fun h => by cases h) fun hr' => T.rep (by omega) (by omega) ?_
  have hP := hr (by simpa using hr')
  have key : ∀ (m i : Nat) (v : List Int), t.1.length - i ≤ m → v.length = t.1.length → T (fun k n => ze0 k n v t.1 (t.1.length : Int) (i : Int)) fun _ => True := by
    intro m
    induction m with
    | zero =>
      intro i v h hv
      refine T.step ?_
      unfold ze0
      exact T.dec (fun _ => by omega) fun _ => T.some trivial
    | succ m ih =>
      intro i v h hv
      refine T.step ?_
      unfold ze0
      refine T.dec (fun hi => ?_) fun _ => T.some trivial
      have hi : i < t.1.length := by omega
      have gi : ∀ {v : List Int}, v.length = t.1.length → v[i]? = some (v.getD i 0) := fun hv => by
        rw [List.getElem?_eq_getElem (by omega), List.getD_eq_getElem?_getD, List.getElem?_eq_getElem (by omega)]; rfl
      have fin : ∀ w : List Int, w.length = t.1.length → T (fun k n => zfi k (ze0 k n) w (i : Int) t.1 (t.1.length : Int)) fun _ => True := fun w hw => by
        unfold zfi
        refine T.getN (gi hw) (T.getN (gi hw) (T.dec (fun _ => T.some trivial) fun _ => ?_))
        rw [zcj (by omega)]
        exact ih (i + 1) w (by omega) hw
      refine T.getN (List.getElem?_eq_getElem hi) (T.getN (gi hv) (T.getN (gi hv) (T.dec (fun h0 => ?_) fun _ => fin _ (by simpa using hv))))
      have hv' : (v.set (i : Int).toNat 1).length = t.1.length := by simpa using hv
      obtain ⟨c, e, hc⟩ := hP i _ (by omega) (by omega) (List.getElem?_eq_getElem hi)
      rw [e]
      have gc : (v.set (i : Int).toNat 1)[c]? = some ((v.set (i : Int).toNat 1).getD c 0) := by
        rw [List.getElem?_eq_getElem (by omega), List.getD_eq_getElem?_getD, List.getElem?_eq_getElem (by omega)]; rfl
      exact T.getN gc (T.getN gc (T.getN (gi hv') (T.getN (gi hv') (fin _ (by simpa using hv)))))
  exact (T.diag (F := fun k n => ze0 k n (List.replicate t.1.length 0) t.1 (t.1.length : Int) 0) (key _ 0 _ (Nat.le_refl _) (by simp))).mono fun _ _ _ => by omega
end
section
open Go.RowKit Go.Sl
open Go.V (T)
abbrev KT := Int × ByteArray
def kt (x : zal) : KT := (x.Kind, x.Text)
def ktC (c : Ct) : KT := if c.1 = bs [] then (2, c.2.1) else (1, bs [])
def ktI (A : List za0) (j : Nat) : KT := match A[j]? with
  | some x => ktC (cont x)
  | none => (0, bs [])
def AttN (l : List zal) : Prop := ∀ x ∈ l, x.Attrs.length ≤ 1000000
theorem AttN.set {l : List zal} (h : AttN l) (i : Nat) {x : zal} (hx : x.Attrs.length ≤ 1000000) : AttN (l.set i x) := fun y hy =>
  (List.mem_or_eq_of_mem_set hy).elim (h y) fun e => e ▸ hx
theorem zvc {l : List zal} {i : Nat} {x y : zal} (h : l[i]? = some x) (hk : kt y = kt x) : (l.set i y).map kt = l.map kt := by
  apply List.ext_getElem?
  intro j
  rw [List.getElem?_map, List.getElem?_map, List.getElem?_set]
  split
  · rename_i e; subst e
    rw [if_pos (List.getElem?_eq_some_iff.1 h).1, h]; simp [hk]
  · rfl
def MkQ (A : List za0) (q : zad) (l : List Nat) (r : Int × zad) : Prop := r.1 = (q.Nodes.length : Int) ∧ q.Nodes.length < r.2.Nodes.length ∧ r.2.Nodes.length ≤ 4097 ∧ AttN r.2.Nodes ∧ (r.2.Nodes.length ≤ 4096 → r.2.Nodes.map kt = q.Nodes.map kt ++ l.map (ktI A))
theorem Make1_T {A : List za0} (hI : Inv A) (hl : A.length ≤ 100000) (ha : ∀ x ∈ A, x.attrs.length ≤ 1000000) {i : Nat} {p : zah} {l : List Nat} (h : PartOf A i p l) : ∀ (p1 p2 : Int) (q : zad), q.Nodes.length ≤ 4096 → AttN q.Nodes → T (fun _ n => zeo n p p1 p2 q) (MkQ A q l) := by
  induction h with
  | @mk i x ps ls hx h1 h2 hk ih =>
    intro p1 p2 q hq hqa
    refine T.step ?_
    have hn := (hI.nodup i x hx).2
    have hax := ha x (List.mem_of_getElem? hx)
    have hki : ktI A i = ktC (cont x) := by unfold ktI; rw [hx]
    show T (fun _ n => zh4 (zeo n) n ⟨x.name, x.text, x.attrs, ps⟩ p1 p2 q) _
    unfold zh4 zgz
    refine T.app (by simp; omega) (by simp; omega) ?_
    have go : ∀ nd : zal, nd.Attrs.length ≤ 1000000 → kt nd = ktC (cont x) → T (fun _ n => zfa n ⟨x.name, x.text, x.attrs, ps⟩ q (zeo n) nd) (MkQ A q (i :: ls.flatten)) := fun nd hnd hndk => by
      unfold zfa
      refine T.app (by simp; omega) (by simp; omega) ?_
      have hA : AttN (q.Nodes ++ [nd]) := fun y hy => (List.mem_append.1 hy).elim (hqa y) fun e => List.mem_singleton.1 e ▸ hnd
      have hK : (q.Nodes ++ [nd]).map kt = q.Nodes.map kt ++ [ktI A i] := by rw [List.map_append, hki, ← hndk]; rfl
      refine T.bif (fun hc => T.some ⟨rfl, by simp, by simp; omega, hA, fun hs => ?_⟩) fun hc => ?_
      · have hs : (q.Nodes ++ [nd]).length ≤ 4096 := hs
        have hnm : x.name = bs [] := by
          rcases Bool.or_eq_true .. ▸ hc with h | h
          · have := of_decide_eq_true h; omega
          · exact of_decide_eq_true h
        have : ls = [] := List.eq_nil_of_length_eq_zero (by rw [h2, hI.leaf i x hx hnm]; rfl)
        subst this
        exact hK
      have hc : (q.Nodes ++ [nd]).length ≤ 4096 := by simp at hc; simp; omega
      have fin : ∀ (y : List zal) (la : Int), q.Nodes.length < y.length → y.length ≤ 4097 → AttN y → (y.length ≤ 4096 → y.map kt = q.Nodes.map kt ++ (i :: ls.flatten).map (ktI A)) → T (fun _ _ => zf9 q y la) (MkQ A q (i :: ls.flatten)) := fun y la g1 g2 g3 g4 => by
        unfold zf9
        refine T.getN (List.getElem?_eq_getElem g1) (T.set g1 (T.some ⟨rfl, by simpa using g1, by simpa using g2, g3.set _ (g3 y[q.Nodes.length] (List.getElem_mem g1)), fun hs => ?_⟩))
        have hs : y.length ≤ 4096 := by simpa using hs
        rw [← g4 hs]
        exact zvc (List.getElem?_eq_getElem g1) rfl
      have loop : ∀ (e j : Nat) (y : List zal) (la : Int), j + e = ps.length → q.Nodes.length < y.length → y.length ≤ 4096 → AttN y → (la = -1 ∨ ∃ c : Nat, la = c ∧ c < y.length) → y.map kt = q.Nodes.map kt ++ (i :: (ls.take j).flatten).map (ktI A) → T (fun k n => zc3 ⟨x.name, x.text, x.attrs, ps⟩ q (zeo k) n y la (j : Int)) (MkQ A q (i :: ls.flatten)) := by
        intro e
        induction e with
        | zero =>
          intro j y la hj g1 g2 g3 _ g5
          refine T.step ?_
          unfold zc3
          refine T.dec (fun (h : (j : Int) < (ps.length : Int)) => by omega) fun _ => fin y la g1 (by omega) g3 fun _ => ?_
          rw [List.take_of_length_le (by omega)] at g5; exact g5
        | succ e ihe =>
          intro j y la hj g1 g2 g3 hla g5
          refine T.step ?_
          unfold zc3
          refine T.dec (fun _ => ?_) fun (h : ¬ (j : Int) < (ps.length : Int)) => by omega
          have hj1 : j < ps.length := by omega
          have hj2 : j < x.kids.length := by omega
          have hj3 : j < ls.length := by omega
          obtain ⟨c, e1, _⟩ := hI.kid i x hx _ (List.getElem_mem hj2)
          refine T.getN (List.getElem?_eq_getElem hj1) (T.bind (T.fl (ih j c _ _ (by rw [List.getElem?_eq_getElem hj2, e1]) (List.getElem?_eq_getElem hj1) (List.getElem?_eq_getElem hj3) (q.Nodes.length : Int) la ⟨y⟩ g2 g3)) fun r hr => ?_)
          obtain ⟨r1, r2, r3, r4, r5⟩ := hr
          have r2 : y.length < r.2.Nodes.length := r2
          have nx : ∀ (z : List zal), z.length = r.2.Nodes.length → AttN z → z.map kt = r.2.Nodes.map kt → T (fun k n => zf8 q (j : Int) (zc3 ⟨x.name, x.text, x.attrs, ps⟩ q (zeo k) n) r z) (MkQ A q (i :: ls.flatten)) := fun z hz hza hzk => by
            unfold zf8
            refine T.dec (fun _ => fin z _ (by omega) (by omega) hza fun _ => by omega) fun hc => ?_
            rw [zcj (by omega)]
            refine ihe (j + 1) z r.1 (by omega) (by omega) (by omega) hza (.inr ⟨y.length, r1, by omega⟩) ?_
            rw [hzk, r5 (by omega)]
            show y.map kt ++ _ = _
            rw [g5, List.take_add_one, List.getElem?_eq_getElem hj3, List.flatten_append]
            simp
          refine T.dec (fun _ => ?_) fun hne => ?_
          · have g : q.Nodes.length < r.2.Nodes.length := by omega
            exact T.getN (List.getElem?_eq_getElem g) (T.set g (nx _ (by simp) (AttN.set r4 _ (r4 r.2.Nodes[q.Nodes.length] (List.getElem_mem g))) (zvc (List.getElem?_eq_getElem g) rfl)))
          · rcases hla with hla | ⟨d, rfl, hd⟩
            · exact absurd hla hne
            · have g : d < r.2.Nodes.length := by omega
              exact T.getN (List.getElem?_eq_getElem g) (T.set g (nx _ (by simp) (AttN.set r4 _ (r4 r.2.Nodes[d] (List.getElem_mem g))) (zvc (List.getElem?_eq_getElem g) rfl)))
      exact T.dg (F := fun k n => zc3 ⟨x.name, x.text, x.attrs, ps⟩ q (zeo k) n (q.Nodes ++ [nd]) (-1) 0) (loop ps.length 0 _ _ (by omega) (by simp) hc hA (.inl rfl) hK)
    unfold zhc
    refine T.dec (fun hnm => go _ (by simp) ?_) fun hnm => go _ (by simpa using hax) ?_
    · show ((2 : Int), x.text) = ktC (cont x)
      unfold ktC; rw [if_pos (show (cont x).1 = bs [] from hnm)]; rfl
    · show ((1 : Int), bs []) = ktC (cont x)
      unfold ktC; rw [if_neg (show ¬ (cont x).1 = bs [] from hnm)]
def BuQ (P : List KT → Prop) (r : zad × Int) : Prop := r.1.Nodes.length ≤ 4097 ∧ AttN r.1.Nodes ∧ (r.2 = 0 → P (r.1.Nodes.map kt))
theorem BuQ.no {P : List KT → Prop} {e : Int} (he : e ≠ 0) : BuQ P (⟨[]⟩, e) := ⟨by simp, by simp [AttN], fun h => absurd h he⟩
theorem Make_T {A : List za0} (hI : Inv A) (hl : A.length ≤ 100000) (ha : ∀ x ∈ A, x.attrs.length ≤ 1000000) {p : zah} {l : List Nat} (h : PartOf A 0 p l) : T (fun k _ => zls k p) (BuQ fun l => l.Perm ((A.map cont).map ktC)) := by
  unfold zls
  refine T.bind (T.fl (Make1_T hI hl ha h (-1) (-1) ⟨[]⟩ (by simp) (by simp [AttN]))) fun r hr => T.bind (Right_T (t := ofT r.2) ?_) fun e he => T.dec (fun h => T.some (.no h)) fun h0 => T.some ⟨hr.2.2.1, hr.2.2.2.1, fun _ => ?_⟩
  · show (r.2.Nodes.map ofN).length ≤ 5000
    have := hr.2.2.1
    simp; omega
  · have hs : (r.2.Nodes.map ofN).length ≤ 4096 := he (Decidable.not_not.1 h0)
    have hk := hr.2.2.2.2 (by simpa using hs)
    show (r.2.Nodes.map kt).Perm _
    rw [hk]
    refine ((visit hI h).map (ktI A)).trans (.of_eq ?_)
    apply List.ext_getElem?
    intro j
    rw [List.getElem?_map, List.getElem?_map, List.getElem?_map]
    by_cases hj : j < A.length
    · rw [List.getElem?_range hj, List.getElem?_eq_getElem hj]
      show some (ktI A j) = _
      unfold ktI; rw [List.getElem?_eq_getElem hj]; rfl
    · rw [List.getElem?_eq_none (by simp; omega), List.getElem?_eq_none (by omega)]; rfl
end
end Go.Proofs.YtdjjeahiomackaaGreat
