/-
  Walks and laws of this seat.
-/
import Derived.Test.YtdjjeahiomackaaGreatTb
namespace Go.Proofs.YtdjjeahiomackaaGreat
set_option linter.unusedVariables false
set_option linter.unusedSimpArgs false
set_option linter.unusedSectionVars false
section
open Go.RowKit Go.Sl
open Go.V (T TreT NodT AttT zbo zei zbj zeo zdb ze6 zfn)
theorem alone_T (r : zah) : T (fun k _ => dom_alone k r) fun _ => True := by
  unfold dom_alone
  refine T.dec (fun _ => T.some trivial) fun _ => T.bif (fun _ => T.some trivial) fun h => ?_
  have hl : r.Attrs.length ≤ 64 := by simp at h; omega
  have key : ∀ (m j : Nat) (y : List (ByteArray × Int)), r.Attrs.length - j ≤ m → T (fun _ n => zco r n y j) fun _ => True := by
    intro m
    induction m with
    | zero =>
      intro j y h
      refine T.step ?_
      unfold zco
      exact T.dec (fun _ => by omega) fun _ => T.some trivial
    | succ m ih =>
      intro j y h
      refine T.step ?_
      unfold zco zh9
      refine T.dec (fun hj => ?_) fun _ => T.some trivial
      have hj : j < r.Attrs.length := by omega
      have nx : ∀ y, T (fun _ n => zco r n y (w64 ((j : Int) + 1))) fun _ => True := fun y => by
        rw [zbz (by omega)]; exact ih (j + 1) y (by omega)
      exact T.getN (List.getElem?_eq_getElem hj) (T.dec (fun _ => T.bif (fun _ => T.some trivial) fun _ => nx _) fun _ => T.bif (fun _ => T.some trivial) fun _ => nx _)
  exact T.diag (F := fun _ n => zco r n [] 0) (key _ 0 [] (Nat.le_refl _))
theorem T.rep {α β : Type} {b : Nat} {N : Nat} {x : α} {G : Nat → Nat → List α → Option β} {Q : β → Prop} (h : b * N ≤ 281474976710656) (h' : N ≤ 9223372036854775807) (g : T (fun k n => G k n (List.replicate N x)) Q) : T (fun k n => (repM b (N : Int) x).bind fun r => G k n r) Q := by
  have e : repM b (N : Int) x = some (List.replicate N x) := by simp [repM, h, h']
  rw [e]; exact g
def In (N : Nat) (l : List Int) : Prop := ∀ x ∈ l, ∃ c : Nat, x = c ∧ c < N
def InO (N : Nat) (l : List Int) : Prop := l.length = N ∧ ∀ x ∈ l, x = -1 ∨ ∃ c : Nat, x = c ∧ c < N
theorem InO.set {N : Nat} {l : List Int} (h : InO N l) {i : Nat} {y : Int} (hy : y = -1 ∨ ∃ c : Nat, y = c ∧ c < N) : InO N (l.set i y) :=
  ⟨by rw [List.length_set]; exact h.1, fun x hx => (List.mem_or_eq_of_mem_set hx).elim (h.2 x) fun e => e ▸ hy⟩
def ParIn (ns : List NodT) (i : Nat) : Prop := ∀ (j : Nat) (x : NodT), i ≤ j → 0 < j → ns[j]? = some x → ∃ c : Nat, x.2.2.2.2.1 = c ∧ c < ns.length
section
variable {t : TreT} (hl : t.1.length ≤ 5000)
include hl
theorem ztd {v : List Int} (hv : InO t.1.length v) : ∀ (m i : Nat), t.1.length - i ≤ m → T (fun k n => zbj k n t v t.1 (t.1.length : Int) i) fun _ => True := by
  intro m
  induction m with
  | zero =>
    intro i h1
    refine T.step ?_
    unfold zbj
    exact T.dec (fun _ => by omega) fun _ => T.some trivial
  | succ m ih =>
    intro i h1
    refine T.step ?_
    unfold zbj
    refine T.dec (fun hi => ?_) fun _ => T.some trivial
    have hi : i < t.1.length := by omega
    have hvl := hv.1
    have nx : T (fun k n => zbj k n t v t.1 (t.1.length : Int) (w64 ((i : Int) + 1))) fun _ => True := by
      rw [zbz (by omega)]; exact ih (i + 1) (by omega)
    have gv : v[i]? = some v[i] := List.getElem?_eq_getElem (by omega)
    have tail : T (fun k n => (geti v (i : Int)).bind fun r26 => bif decide (r26 ≠ (-1)) then (geti v (i : Int)).bind fun r27 => (geti t.1 r27).bind fun r28 => (bif decide (r28.2.2.2.2.2.2.2.2.1 ≠ (-1)) then some false else zbj k n t v t.1 (t.1.length : Int) (w64 ((i : Int) + 1))) else zbj k n t v t.1 (t.1.length : Int) (w64 ((i : Int) + 1))) fun _ => True := by
      refine T.getN gv (T.dec (fun hne => T.getN gv ?_) fun _ => nx)
      rcases hv.2 _ (List.getElem_mem (show i < v.length by omega)) with e | ⟨c, e, hc⟩
      · exact absurd e hne
      · rw [e]
        exact T.getN (List.getElem?_eq_getElem hc) (T.dec (fun _ => T.some trivial) fun _ => nx)
    exact T.getN (List.getElem?_eq_getElem hi) (T.getN gv (T.dec (fun _ => T.some trivial) fun _ => T.getN gv (T.dec (fun _ => T.dec (fun _ => T.some trivial) fun _ => tail) fun _ => tail)))
theorem zjz {v st : List Int} {i : Nat} {x : NodT} (hx : t.1[i]? = some x) (hv : InO t.1.length v) (hs : In t.1.length st) (hsl : st.length ≤ i) (hp : st = [] ∨ ∃ c : Nat, x.2.2.2.2.1 = c ∧ c < t.1.length)
    (nx : ∀ st' v', In t.1.length st' → st'.length ≤ i + 1 → InO t.1.length v' → T (fun k n => zbo k n t st' v' t.1 (t.1.length : Int) ((i + 1 : Nat) : Int)) fun b => b = true → ParIn t.1 (i + 1)) :
    T (fun k n => zeo k (zbo k n) st v x t i t.1 (t.1.length : Int) i) fun b => b = true → ParIn t.1 i := by
  have hil := (List.getElem?_eq_some_iff.1 hx).1
  unfold zeo
  refine T.dec (fun _ => T.some fun h => by cases h) fun hne => ?_
  rcases hp with rfl | ⟨c, hc, hcl⟩
  · exact absurd rfl hne
  have hvl := hv.1
  have gv : v[c]? = some v[c] := List.getElem?_eq_getElem (by omega)
  have fin : T (fun k n => zdb k (zbo k n) v x st i t t.1 (t.1.length : Int) i) fun b => b = true → ParIn t.1 i := by
    unfold zdb
    rw [hc]
    have go : ∀ st', In t.1.length st' → st'.length ≤ i + 1 → T (fun k n => zbo k n t st' (v.set (c : Int).toNat i) t.1 (t.1.length : Int) (w64 ((i : Int) + 1))) fun b => b = true → ParIn t.1 i := fun st' h1 h2 => by
      rw [zbz (by omega)]
      refine (nx st' _ h1 h2 (hv.set (.inr ⟨i, rfl, hil⟩))).mono fun b hb e j y h3 h4 h5 => ?_
      by_cases ej : j = i
      · subst ej
        rw [hx] at h5; cases h5
        exact ⟨c, hc, hcl⟩
      · exact hb e j y (by omega) h4 h5
    refine T.getN gv (T.getN gv (T.dec (fun _ => T.app (by simp; omega) (by simp; omega) (go _ (fun y hy => ?_) (by simp; omega))) fun _ => go _ hs (by omega)))
    rcases List.mem_append.1 hy with hy | hy
    · exact hs y hy
    · exact ⟨i, List.mem_singleton.1 hy, hil⟩
  have at_ : ∀ {G : Nat → Nat → NodT → Option Bool} {Q : Bool → Prop} (_ : x.2.2.2.2.2.2.2.1 = v[c]) (_ : x.2.2.2.2.2.2.2.1 ≠ -1) (_ : ∀ y, T (fun k n => G k n y) Q), T (fun k n => (geti t.1 x.2.2.2.2.2.2.2.1).bind fun r => G k n r) Q := fun e1 e2 g => by
    rcases hv.2 _ (List.getElem_mem (show c < v.length by omega)) with e | ⟨d, e, hd⟩
    · exact absurd (e1.trans e) e2
    · rw [e1.trans e]
      exact T.getN (List.getElem?_eq_getElem hd) (g _)
  rw [hc]
  refine T.getN gv (T.getN gv (T.dec (fun _ => T.some fun h => by cases h) fun e1 => ?_))
  have e1 : x.2.2.2.2.2.2.2.1 = v[c] := Decidable.not_not.1 e1
  refine T.dec (fun h1 => T.getN (List.getElem?_eq_getElem hcl) (T.dec (fun _ => T.some fun h => by cases h) fun _ => T.dec (fun h2 => absurd h1 h2) fun _ => fin)) fun h1 => T.dec (fun h2 => at_ e1 h2 fun y => T.dec (fun _ => T.some fun h => by cases h) fun _ => fin) fun _ => fin
theorem zul : ∀ (m i : Nat), t.1.length - i ≤ m → ∀ (st v : List Int), In t.1.length st → st.length ≤ i → InO t.1.length v → T (fun k n => zbo k n t st v t.1 (t.1.length : Int) i) fun b => b = true → ParIn t.1 i := by
  have fin : ∀ (i : Nat) (v : List Int), t.1.length ≤ i → InO t.1.length v → T (fun k n => zbj k n t v t.1 (t.1.length : Int) 0) fun b => b = true → ParIn t.1 i := fun i v h hv =>
    (ztd hl hv _ 0 (Nat.le_refl _)).mono fun _ _ _ j x h1 _ h2 => absurd (List.getElem?_eq_some_iff.1 h2).1 (by omega)
  intro m
  induction m with
  | zero =>
    intro i h st v hs hsl hv
    refine T.step ?_
    unfold zbo
    exact T.dec (fun _ => by omega) fun _ => fin i v (by omega) hv
  | succ m ih =>
    intro i h st v hs hsl hv
    refine T.step ?_
    unfold zbo
    refine T.dec (fun hi => ?_) fun _ => fin i v (by omega) hv
    have hi : i < t.1.length := by omega
    have hvl := hv.1
    have gv : v[i]? = some v[i] := List.getElem?_eq_getElem (by omega)
    have hx := List.getElem?_eq_getElem hi
    have hv' : InO t.1.length (v.set i (-1)) := hv.set (.inl rfl)
    refine T.getN hx (T.getN gv (T.getN gv (T.bind (P := fun _ => True) ?_ fun r6 _ => T.bif (fun _ => T.some fun h => by cases h) fun _ => T.dec (fun h0 => ?_) fun h0 => ?_)))
    · exact alone_T (toN _)
    · have h0 : i = 0 := by omega
      subst h0
      rw [Nat.sub_zero] at h
      refine T.app (by simp; omega) (by simp; omega) ?_
      rw [show w64 (((0 : Nat) : Int) + 1) = ((1 : Nat) : Int) from rfl]
      refine (ih 1 (by omega) _ _ (fun y hy => ?_) (by rw [List.length_append]; exact Nat.succ_le_succ hsl) hv').mono fun b hb e j y h1 h2 h3 => hb e j y (by omega) h2 h3
      rcases List.mem_append.1 hy with hy | hy
      · exact hs y hy
      · exact ⟨0, List.mem_singleton.1 hy, hi⟩
    · have nx : ∀ st' v', In t.1.length st' → st'.length ≤ i + 1 → InO t.1.length v' → T (fun k n => zbo k n t st' v' t.1 (t.1.length : Int) ((i + 1 : Nat) : Int)) fun b => b = true → ParIn t.1 (i + 1) := fun st' v' h1 h2 h3 => ih (i + 1) (by omega) st' v' h1 h2 h3
      have key : ∀ (e : Nat) (st : List Int), st.length ≤ e → In t.1.length st → st.length ≤ i → T (fun k n => zei k n t st (v.set i (-1)) i t.1[i] t.1 (t.1.length : Int) i) fun b => b = true → ParIn t.1 i := by
        intro e
        induction e with
        | zero =>
          intro st he hs hsl
          refine T.step ?_
          unfold zei
          exact T.dec (fun _ => by omega) fun _ => zjz hl hx hv' hs hsl (.inl (List.eq_nil_of_length_eq_zero (by omega))) nx
        | succ e ihe =>
          intro st he hs hsl
          refine T.step ?_
          unfold zei
          refine T.dec (fun h1 => ?_) fun h1 => zjz hl hx hv' hs hsl (.inl (List.eq_nil_of_length_eq_zero (by omega))) nx
          rw [w64n (by omega), show ((st.length : Int) - 1) = ((st.length - 1 : Nat) : Int) by omega]
          have gs : st[st.length - 1]? = some st[st.length - 1] := List.getElem?_eq_getElem (by omega)
          refine T.getN gs (T.getN gs (T.dec (fun _ => T.cut (by omega) (by omega) (by omega) fun r hr hrl => ?_) fun e => ?_))
          · refine ihe r (by omega) (fun y hy => ?_) (by omega)
            rw [hr] at hy
            exact hs y (List.mem_of_mem_take (List.mem_of_mem_drop hy))
          · refine zjz hl hx hv' hs hsl (.inr ?_) nx
            obtain ⟨c, h1, h2⟩ := hs _ (List.getElem_mem (show st.length - 1 < st.length by omega))
            exact ⟨c,(Decidable.not_not.1 e).symm.trans h1, h2⟩
      exact key _ st (Nat.le_refl _) hs hsl
theorem linked_T (h0 : 0 < t.1.length) : T (fun k _ => Go.V.dom_linked k t) fun b => b = true → ParIn t.1 0 := by
  unfold Go.V.dom_linked Go.V.dom_linked_h
  refine T.getN (i := 0) (List.getElem?_eq_getElem h0) (T.dec (fun _ => T.some fun h => by cases h) fun _ => T.dec (fun _ => T.some fun h => by cases h) fun _ => T.dec (fun _ => T.some fun h => by cases h) fun _ => T.dec (fun _ => T.some fun h => by cases h) fun _ => ?_)
  refine T.rep (by omega) (by omega) ?_
  exact T.diag (F := fun k n => zbo k n t [] (List.replicate t.1.length 0) t.1 (t.1.length : Int) 0) (zul hl _ 0 (Nat.le_refl _) [] _ (fun y hy => by cases hy) (by simp) ⟨by simp, fun y hy => .inr ⟨0, List.eq_of_mem_replicate hy, h0⟩⟩)
end
theorem Right_T {t : TreT} (hl : t.1.length ≤ 5000) : T (fun k _ => Go.V.dom_Right k t) fun _ => True := by
  unfold Go.V.dom_Right Go.V.dom_Right_h
  refine T.dec (fun _ => T.some trivial) fun h0 => T.dec (fun _ => T.some trivial) fun _ => T.bind (linked_T hl (by omega)) fun r hr => T.bif (fun _ => T.some trivial) fun hr' => T.rep (by omega) (by omega) ?_
  have hP := hr (by simpa using hr')
  have key : ∀ (m i : Nat) (v : List Int), t.1.length - i ≤ m → v.length = t.1.length → T (fun k n => ze6 k n v t.1 (t.1.length : Int) (i : Int)) fun _ => True := by
    intro m
    induction m with
    | zero =>
      intro i v h hv
      refine T.step ?_
      unfold ze6
      exact T.dec (fun _ => by omega) fun _ => T.some trivial
    | succ m ih =>
      intro i v h hv
      refine T.step ?_
      unfold ze6
      refine T.dec (fun hi => ?_) fun _ => T.some trivial
      have hi : i < t.1.length := by omega
      have gi : ∀ {v : List Int}, v.length = t.1.length → v[i]? = some (v.getD i 0) := fun hv => by
        rw [List.getElem?_eq_getElem (by omega), List.getD_eq_getElem?_getD, List.getElem?_eq_getElem (by omega)]; rfl
      have fin : ∀ w : List Int, w.length = t.1.length → T (fun k n => zfn k (ze6 k n) w (i : Int) t.1 (t.1.length : Int)) fun _ => True := fun w hw => by
        unfold zfn
        refine T.getN (gi hw) (T.getN (gi hw) (T.dec (fun _ => T.some trivial) fun _ => ?_))
        rw [zbz (by omega)]
        exact ih (i + 1) w (by omega) hw
      refine T.getN (List.getElem?_eq_getElem hi) (T.getN (gi hv) (T.getN (gi hv) (T.dec (fun h0 => ?_) fun _ => fin _ (by simpa using hv))))
      have hv' : (v.set (i : Int).toNat 1).length = t.1.length := by simpa using hv
      obtain ⟨c, e, hc⟩ := hP i _ (by omega) (by omega) (List.getElem?_eq_getElem hi)
      rw [e]
      have gc : (v.set (i : Int).toNat 1)[c]? = some ((v.set (i : Int).toNat 1).getD c 0) := by
        rw [List.getElem?_eq_getElem (by omega), List.getD_eq_getElem?_getD, List.getElem?_eq_getElem (by omega)]; rfl
      exact T.getN gc (T.getN gc (T.getN (gi hv') (T.getN (gi hv') (fin _ (by simpa using hv)))))
  exact T.diag (F := fun k n => ze6 k n (List.replicate t.1.length 0) t.1 (t.1.length : Int) 0) (key _ 0 _ (Nat.le_refl _) (by simp))
end
section
open Go.RowKit Go.Sl
open Go.V (T)
def MkQ (q : zab) (r : Int × zab) : Prop := r.1 = (q.Nodes.length : Int) ∧ q.Nodes.length < r.2.Nodes.length ∧ r.2.Nodes.length ≤ 4097 ∧ ∀ x ∈ r.2.Nodes, x.Attrs.length ≤ 1000000
def AttN (l : List zah) : Prop := ∀ x ∈ l, x.Attrs.length ≤ 1000000
theorem AttN.set {l : List zah} (h : AttN l) (i : Nat) {x : zah} (hx : x.Attrs.length ≤ 1000000) : AttN (l.set i x) := fun y hy =>
  (List.mem_or_eq_of_mem_set hy).elim (h y) fun e => e ▸ hx
theorem Make1_T {A : List za0} (hI : Inv A) (hl : A.length ≤ 100000) (ha : ∀ x ∈ A, x.attrs.length ≤ 1000000) {i : Nat} {p : zam} {l : List Nat} (h : PartOf A i p l) : ∀ (p1 p2 : Int) (q : zab), q.Nodes.length ≤ 4096 → AttN q.Nodes → T (fun _ n => zes n p p1 p2 q) (MkQ q) := by
  induction h with
  | @mk i x ps ls hx h1 h2 hk ih =>
    intro p1 p2 q hq hqa
    refine T.step ?_
    have hn := (hI.nodup i x hx).2
    have hax := ha x (List.mem_of_getElem? hx)
    show T (fun _ n => zha (zes n) n ⟨x.name, x.text, x.attrs, ps⟩ p1 p2 q) _
    unfold zha zg1
    refine T.app (by simp; omega) (by simp; omega) ?_
    have go : ∀ nd : zah, nd.Attrs.length ≤ 1000000 → T (fun _ n => zff n ⟨x.name, x.text, x.attrs, ps⟩ q (zes n) nd) (MkQ q) := fun nd hnd => by
      unfold zff
      refine T.app (by simp; omega) (by simp; omega) ?_
      have hA : AttN (q.Nodes ++ [nd]) := fun y hy => (List.mem_append.1 hy).elim (hqa y) fun e => List.mem_singleton.1 e ▸ hnd
      refine T.bif (fun _ => T.some ⟨rfl, by simp, by simp; omega, hA⟩) fun hc => ?_
      have hc : (q.Nodes ++ [nd]).length ≤ 4096 := by simp at hc; simp; omega
      have fin : ∀ (y : List zah) (la : Int), q.Nodes.length < y.length → y.length ≤ 4097 → AttN y → T (fun _ _ => zfe q y la) (MkQ q) := fun y la g1 g2 g3 => by
        unfold zfe
        exact T.getN (List.getElem?_eq_getElem g1) (T.set g1 (T.some ⟨rfl, by simpa using g1, by simpa using g2, g3.set _ (g3 y[q.Nodes.length] (List.getElem_mem g1))⟩))
      have loop : ∀ (e j : Nat) (y : List zah) (la : Int), j + e = ps.length → q.Nodes.length < y.length → y.length ≤ 4096 → AttN y → (la = -1 ∨ ∃ c : Nat, la = c ∧ c < y.length) → T (fun k n => zc6 ⟨x.name, x.text, x.attrs, ps⟩ q (zes k) n y la (j : Int)) (MkQ q) := by
        intro e
        induction e with
        | zero =>
          intro j y la hj g1 g2 g3 _
          refine T.step ?_
          unfold zc6
          exact T.dec (fun (h : (j : Int) < (ps.length : Int)) => by omega) fun _ => fin y la g1 (by omega) g3
        | succ e ihe =>
          intro j y la hj g1 g2 g3 hla
          refine T.step ?_
          unfold zc6
          refine T.dec (fun _ => ?_) fun _ => fin y la g1 (by omega) g3
          have hj1 : j < ps.length := by omega
          have hj2 : j < x.kids.length := by omega
          have hj3 : j < ls.length := by omega
          obtain ⟨c, e1, _⟩ := hI.kid i x hx _ (List.getElem_mem hj2)
          refine T.getN (List.getElem?_eq_getElem hj1) (T.bind (T.fl (ih j c _ _ (by rw [List.getElem?_eq_getElem hj2, e1]) (List.getElem?_eq_getElem hj1) (List.getElem?_eq_getElem hj3) (q.Nodes.length : Int) la ⟨y⟩ g2 g3)) fun r hr => ?_)
          obtain ⟨r1, r2, r3, r4⟩ := hr
          have r2 : y.length < r.2.Nodes.length := r2
          have nx : ∀ (z : List zah), z.length = r.2.Nodes.length → AttN z → T (fun k n => zfd q (j : Int) (zc6 ⟨x.name, x.text, x.attrs, ps⟩ q (zes k) n) r z) (MkQ q) := fun z hz hza => by
            unfold zfd
            refine T.dec (fun _ => fin z _ (by omega) (by omega) hza) fun hc => ?_
            rw [zbz (by omega)]
            exact ihe (j + 1) z r.1 (by omega) (by omega) (by omega) hza (.inr ⟨y.length, r1, by omega⟩)
          refine T.dec (fun _ => ?_) fun hne => ?_
          · have g : q.Nodes.length < r.2.Nodes.length := by omega
            exact T.getN (List.getElem?_eq_getElem g) (T.set g (nx _ (by simp) (AttN.set r4 _ (r4 r.2.Nodes[q.Nodes.length] (List.getElem_mem g)))))
          · rcases hla with hla | ⟨d, rfl, hd⟩
            · exact absurd hla hne
            · have g : d < r.2.Nodes.length := by omega
              exact T.getN (List.getElem?_eq_getElem g) (T.set g (nx _ (by simp) (AttN.set r4 _ (r4 r.2.Nodes[d] (List.getElem_mem g)))))
      exact T.dg (F := fun k n => zc6 ⟨x.name, x.text, x.attrs, ps⟩ q (zes k) n (q.Nodes ++ [nd]) (-1) 0) (loop ps.length 0 _ _ (by omega) (by simp) hc hA (.inl rfl))
    unfold zhj
    exact T.dec (fun _ => go _ (by simp)) fun _ => go _ (by simpa using hax)
def BuQ (r : zab × Int) : Prop := r.1.Nodes.length ≤ 4097 ∧ ∀ x ∈ r.1.Nodes, x.Attrs.length ≤ 1000000
theorem BuQ.no (e : Int) : BuQ (⟨[]⟩, e) := ⟨by simp, by simp⟩
theorem Make_T {A : List za0} (hI : Inv A) (hl : A.length ≤ 100000) (ha : ∀ x ∈ A, x.attrs.length ≤ 1000000) {i : Nat} {p : zam} {l : List Nat} (h : PartOf A i p l) : T (fun k _ => zls k p) BuQ := by
  unfold zls
  refine T.bind (T.fl (Make1_T hI hl ha h (-1) (-1) ⟨[]⟩ (by simp) (by simp [AttN]))) fun r hr => T.bind (Right_T (t := ofT r.2) ?_) fun e _ => T.dec (fun _ => T.some (.no e)) fun _ => T.some ⟨hr.2.2.1, hr.2.2.2⟩
  show (r.2.Nodes.map ofN).length ≤ 5000
  have := hr.2.2.1
  simp; omega
def TxB (A : List za0) (M : Nat) : Prop := ∀ x ∈ A, x.text.size ≤ M
theorem TxB.of {A B : List za0} {M N : Nat} {l : List Ct} (h : TxB A M) (hMN : M ≤ N) (hl : ∀ y ∈ l, y.2.1.size ≤ N) (hc : B.map cont = A.map cont ++ l) : TxB B N := fun x hx => by
  have : cont x ∈ A.map cont ++ l := by rw [← hc]; exact List.mem_map_of_mem hx
  rcases List.mem_append.1 this with h1 | h1
  · obtain ⟨y, hy, e⟩ := List.mem_map.1 h1
    have e2 : y.text = x.text := congrArg (fun z : Ct => z.2.1) e
    rw [← e2]; exact Nat.le_trans (h y hy) hMN
  · exact hl _ h1
theorem TxB.puts {A B : List za0} {M N m : Nat} {P : ByteArray → Prop} (h : TxB A M) (hMN : M ≤ N) (hp : Puts A B m P) : TxB B N := by
  obtain ⟨l, h1, _, h3⟩ := hp
  exact h.of hMN (fun y hy => by rw [(h3 y hy).1]; exact Nat.zero_le _) h1
theorem Build_T {l : List za4} (hl : l.length ≤ 100) (ha : ∀ x ∈ l, x.Attrs.length ≤ 1000000 ∧ x.Text.size ≤ 10000000) : T (fun k _ => zgm k l) BuQ := by
  have fin : ∀ (b : za3) (A : List za0), Bd b A → A.length ≤ 4096 → T (fun k _ => zg5 k b.open_ b.count b.deep A) BuQ := fun b A hb hA => by
    unfold zg5
    refine T.bif (fun _ => T.some (.no _)) fun _ => T.bind (T.fl (part_T hb.inv (by omega) _ 0 (Nat.le_refl _) (by have := hb.opn.ne; have := hb.opn.len; omega))) fun p hp => ?_
    obtain ⟨ls, hp⟩ := hp
    exact T.bind (Make_T hb.inv (by omega) hb.att hp) fun r hr => T.some hr
  have key : ∀ (m i : Nat) (b : za3) (A : List za0), l.length - i ≤ m → i ≤ l.length → Bd b A → A.length ≤ 4096 → TxB A (i * 10000000) → T (fun k n => zb3 k l n b.open_ b.count b.deep (i : Int) A) BuQ := by
    intro m
    induction m with
    | zero =>
      intro i b A h hi hb hA hT
      refine T.step ?_
      unfold zb3
      exact T.dec (fun _ => by omega) fun _ => fin b A hb hA
    | succ m ih =>
      intro i b A h hi hb hA hT
      refine T.step ?_
      unfold zb3 zg4 zg2 zg3
      refine T.dec (fun h1 => ?_) fun _ => fin b A hb hA
      have h1 : i < l.length := by omega
      have nx : ∀ (b' : za3) (B : List za0), Bd b' B → TxB B ((i + 1) * 10000000) → T (fun k n => zf7 (i : Int) (zb3 k l n) b'.open_ b'.count b'.deep B) BuQ := fun b' B hb' hT' => by
        unfold zf7
        refine T.dec (fun _ => T.some (.no _)) fun hc => ?_
        rw [zbz (by omega)]
        have := hb'.cnt
        exact ih (i + 1) b' B (by omega) (by omega) hb' (by omega) hT'
      have hx := ha _ (List.getElem_mem h1)
      have hT1 : TxB A ((i + 1) * 10000000) := fun x hx => Nat.le_trans (hT x hx) (by omega)
      refine T.getN (List.getElem?_eq_getElem h1) (T.dec (fun _ => T.dec (fun _ => T.bind (chars_T (b := ⟨b.open_, b.count, b.deep⟩) hb (by omega) fun x hx' => ?_) fun r hr => nx _ _ hr.1 ?_) fun _ => nx b A hb hT1) fun _ =>
        T.dec (fun _ => T.bind (zsf (b := ⟨b.open_, b.count, b.deep⟩) hb (by omega) hx.1) fun r hr => nx _ _ hr.1 (hT.puts (by omega) hr.2.1)) fun _ =>
        T.dec (fun _ => T.bind (closed_T (b := ⟨b.open_, b.count, b.deep⟩) hb (by omega)) fun r hr => nx _ _ hr.1 (hT.puts (by omega) hr.2)) fun _ => nx b A hb hT1)
      · have := hT x hx'; omega
      · rcases hr.2 with ⟨e, _⟩ | ⟨j, x, g1, _, e⟩ | e
        · rw [e]; exact hT1
        · rw [e]
          intro y hy
          rcases List.mem_or_eq_of_mem_set hy with hy | rfl
          · exact hT1 y hy
          · have := hT x (List.mem_of_getElem? g1)
            show (x.text ++ _).size ≤ _
            rw [ByteArray.size_append]; omega
        · exact hT.of (by omega) (fun y hy => by rw [List.mem_singleton.1 hy]; show l[i].Text.size ≤ _; omega) e
  unfold zgm
  refine T.diag (F := fun k n => zb3 k l n [0] 1 false 0 ([] ++ [({name := (bs [114,111,111,116]), text := (bs []), attrs := ([] : List zaj), above := (-1 : Int), kids := ([] : List Int)} : za0)])) (key _ 0 ⟨[0],1, false⟩ _ (Nat.le_refl _) (Nat.zero_le _) ⟨⟨⟨_, rfl, rfl⟩, fun i x hx h0 => ?_, fun i x hx k hk => ?_, fun i x hx => ?_⟩, ⟨fun j k hj => ?_, by simp, by simp⟩, rfl, ?_⟩ (by simp) fun x hx => ?_)
  · have := (List.getElem?_eq_some_iff.1 hx).1
    simp at this; omega
  · obtain rfl := List.mem_singleton.1 (List.mem_of_getElem? hx)
    cases hk
  · obtain rfl := List.mem_singleton.1 (List.mem_of_getElem? hx)
    simp
  · have := (List.getElem?_eq_some_iff.1 hj).1
    obtain rfl : j = 0 := by simp at this; omega
    cases hj
    exact ⟨0, rfl, by simp, fun h => by omega⟩
  · intro x hx
    obtain rfl := List.mem_singleton.1 hx
    simp
  · obtain rfl := List.mem_singleton.1 hx
    exact Nat.zero_le _
end
end Go.Proofs.YtdjjeahiomackaaGreat
