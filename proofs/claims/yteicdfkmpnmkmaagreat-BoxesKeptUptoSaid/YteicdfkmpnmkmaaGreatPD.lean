/-
  Walks and laws of this seat.
-/
import Derived.Test.YteicdfkmpnmkmaaGreatPC
import Derived.Test.YteicdfkmpnmkmaaGreatK1
namespace Go.V
set_option linter.unusedVariables false
set_option linter.unusedSimpArgs false
set_option linter.unusedSectionVars false
set_option maxRecDepth 100000
open Go.RowKit Go.Sl
def outP (o : Option BoxT) : BoxT × Bool := match o with
  | none => (zBox, false)
  | some b => (b, true)
def kdR (s : StyT) (a : Int) : Int := (zhr s a).getD 0
def KdOk (o : Option Int) : Prop := ∃ r, o = some r ∧ 1 ≤ r ∧ r ≤ 6
theorem KdOk.some {r : Int} (h : 1 ≤ r ∧ r ≤ 6) : KdOk (Option.some r) := ⟨r, rfl, h⟩
theorem KdOk.bif {b : Bool} {x y : Option Int} (h : KdOk x) (g : KdOk y) : KdOk (bif b then x else y) := by
  cases b
  · exact g
  · exact h
theorem yas {s : StyT} {a : Int} : zhr s a = some (kdR s a) ∧ 1 ≤ kdR s a ∧ kdR s a ≤ 6 := by
  have : KdOk (zhr s a) := by
    unfold zhr zem
    repeat' (first | exact KdOk.some (by decide) | refine KdOk.bif ?_ ?_)
  obtain ⟨r, h, h1, h2⟩ := this
  unfold kdR
  rw [h]
  exact ⟨rfl, h1, h2⟩
section
variable {k : Nat} {S : TreT → (List StyT) → Int → Int → Int → Option (BoxT × Bool)} {J : (List StyT) → Int → TreT → (Int × Int × Int × StyT × ByteArray × (List BoxT)) → StyT → (Int × Int × Int × StyT × ByteArray × (List BoxT)) → (List Int) → Bool → Int → Option (BoxT × Bool)} {t : TreT} {ss : List StyT} {i a h : Int} {r : StyT}
theorem bk5_eq {y6 y3 y4 : Int} (h0 : 0 ≤ h) (h1 : h ≤ 1000000000) : zf5 k S J y6 h t i ss r y3 y4 = zcc k S J (heaP y6 y3 h) t i ss r y3 y4 y6 := by
  unfold zf5 heaP
  rw [w64i (by omega)]
  by_cases c1 : y6 = 2
  · simp [c1]
  · by_cases c2 : y6 = 3
    · simp [c2]
    · by_cases c3 : y3 = 2
      · simp [c1, c2, c3]
      · by_cases c4 : y3 = 3
        · simp [c1, c2, c4]
        · simp [c1, c2, c3, c4]
theorem bk3_eq {y3 y4 : Int} (h0 : 0 ≤ h) (h1 : h ≤ 1000000000) : zdu k S J y4 r y3 a h t i ss = zcc k S J (heaP (kinP (kdR (zgu (zgv r y3) y4) a) h) y3 h) t i ss r y3 y4 (kinP (kdR (zgu (zgv r y3) y4) a) h) := by
  unfold zdu
  rw [yas.1]
  show (bif decide (4 ≤ h) then _ else _) = _
  unfold kinP
  simp only [bk5_eq h0 h1]
  generalize kdR (zgu (zgv r y3) y4) a = q
  by_cases c1 : 4 ≤ h
  · by_cases c2 : q = 2
    · simp [c1, c2]
    · by_cases c3 : q = 3
      · simp [c1, c3]
      · simp [c1, c2, c3]
  · simp [c1]
theorem bk1_eq {y3 : Int} (h0 : 0 ≤ h) (h1 : h ≤ 1000000000) : zaw k S J y3 r a h t i ss = zdu k S J (floP r y3 a) r y3 a h t i ss := by
  unfold zaw floP
  by_cases c1 : y3 = 2
  · simp [c1]
  · by_cases c2 : y3 = 3
    · simp [c2]
    · by_cases c3 : a = 2
      · simp [c1, c2, c3]
      · simp [c1, c2, c3]
theorem bk_eq (h0 : 0 ≤ h) (h1 : h ≤ 1000000000) : (bif decide (4 ≤ h) then bif decide (r.2.1 = 2) then (zaw k S J 0 r a h t i ss) else (bif decide (r.2.1 = 3) then (zaw k S J 0 r a h t i ss) else (zaw k S J r.2.1 r a h t i ss)) else (zaw k S J r.2.1 r a h t i ss)) =
    zcc k S J (heaP (kinP (kdR (styP r a h) a) h) (styP r a h).2.1 h) t i ss r (posP r h) (floP r (posP r h) a) (kinP (kdR (styP r a h) a) h) := by
  have e : (bif decide (4 ≤ h) then bif decide (r.2.1 = 2) then (zaw k S J 0 r a h t i ss) else (bif decide (r.2.1 = 3) then (zaw k S J 0 r a h t i ss) else (zaw k S J r.2.1 r a h t i ss)) else (zaw k S J r.2.1 r a h t i ss)) = zaw k S J (posP r h) r a h t i ss := by
    unfold posP
    by_cases c1 : 4 ≤ h
    · by_cases c2 : r.2.1 = 2
      · simp [c1, c2]
      · by_cases c3 : r.2.1 = 3
        · simp [c1, c3]
        · simp [c1, c2, c3]
    · simp [c1]
  rw [e, bk1_eq h0 h1, bk3_eq h0 h1]
  rfl
end
theorem yh9 {S : Nat → TreT → (List StyT) → Int → Int → Int → Option (BoxT × Bool)} {y : Int} {v : Int × Int × Int × StyT × ByteArray × List BoxT} {s : StyT} (hv : (v.2.2.2.2.2.length : Int) ≤ 1000000) : T (fun k _ => zbv k (S k) y v s (v.2.2.2.2.2.any isOut)) (· = (Tr.mk (y, v.2.1, v.2.2.1, v.2.2.2.1, v.2.2.2.2.1,()) (fitL isLev y s v.2.2.2.2.2), true)) := by
  have c5 : fitL isLev y s v.2.2.2.2.2 = v.2.2.2.2.2 → T (fun k _ => zg5 k (S k) y v) (· = (Tr.mk (y, v.2.1, v.2.2.1, v.2.2.2.1, v.2.2.2.2.1,()) (fitL isLev y s v.2.2.2.2.2), true)) := fun e => by
    unfold zg5
    exact T.some (by rw [e])
  have c2 : y = 1 ∨ y = 5 → T (fun k _ => zg7 k (S k) (v.2.2.2.2.2.any isOut) v s y) (· = (Tr.mk (y, v.2.1, v.2.2.1, v.2.2.2.1, v.2.2.2.2.1,()) (fitL isLev y s v.2.2.2.2.2), true)) := fun hy => by
    unfold zg7
    refine T.bif (fun ho => T.bindE (yct hv) (T.some ?_)) fun ho => c5 ?_
    · unfold fitL
      rw [if_neg (by omega), if_neg (by omega), if_pos ⟨hy, ho⟩]
    · unfold fitL
      rw [if_neg (by omega), if_neg (by omega), if_neg (by rw [ho]; simp), if_neg (by omega)]
  have c3 : y ≠ 1 → y ≠ 5 → y ≠ 3 → y ≠ 4 → T (fun k _ => zg6 k (S k) y v s) (· = (Tr.mk (y, v.2.1, v.2.2.1, v.2.2.2.1, v.2.2.2.2.1,()) (fitL isLev y s v.2.2.2.2.2), true)) := fun h1 h5 h3 h4 => by
    unfold zg6
    refine T.dec (fun h2 => T.bindE (wrapF_TE hv) (T.some ?_)) fun h2 => c5 ?_
    · unfold fitL
      rw [if_neg h3, if_neg h4, if_neg (fun h => h.1.elim h1 h5), if_pos h2]
    · unfold fitL
      rw [if_neg h3, if_neg h4, if_neg (fun h => h.1.elim h1 h5), if_neg h2]
  unfold zbv
  refine T.dec (fun h3 => T.bindE (runs4_TE hv) (T.some ?_)) fun h3 => T.dec (fun h4 => T.bindE (ycs hv) (T.some ?_)) fun h4 => T.dec (fun h1 => T.dec (fun _ => c2 (.inl h1)) fun h => absurd h1 h) fun h1 => T.dec (fun h5 => c2 (.inr h5)) fun h5 => c3 h1 h5 h3 h4
  · unfold fitL
    rw [if_pos h3]
  · unfold fitL
    rw [if_neg h3, if_pos h4]
theorem ygh {α β : Type} {f : α → Option β} {l : List α} {j : Nat} {x : α} (h : l[j]? = some x) : (l.take (j + 1)).filterMap f = (l.take j).filterMap f ++ (f x).toList := by
  rw [List.take_add_one, h, List.filterMap_append]
  cases e : f x <;> simp [e]
theorem yem {t : TreT} (ht : TrOK t) (hk : TrK t) {ss : List StyT} (hs : ss.length = t.1.length) : ∀ (m i : Nat) (a h : Int), t.1.length - i ≤ m → i < t.1.length → 0 ≤ h → h ≤ i → T (fun k _ => zbd k t ss i a h) (· = outP (buildP isLev kdR t.1 ss m i a h)) := by
  have hl := ht.len
  intro m
  induction m with
  | zero => intro i a h h1 h2; omega
  | succ m ih =>
    intro i a h h1 h2 h0 hh
    refine T.stepK ?_
    unfold zbd
    refine T.diag (F := fun k n => zjx k (fun a0 a1 a2 a3 a4 => zbd k a0 a1 a2 a3 a4) n t ss i a h) ?_
    unfold zjx
    refine T.get (by omega) (by omega) fun x hx => T.get (by omega) (by omega) fun s0 hs0 => ?_
    have hx : t.1[i]? = some x := by simpa using hx
    have hs0 : ss[i]? = some s0 := by simpa using hs0
    rw [buildP, hx, hs0]
    simp only
    refine T.dec (fun c => T.some (by rw [if_pos c]; rfl)) fun c => ?_
    rw [if_neg c]
    refine T.dec (fun c => T.some (by rw [if_pos c]; rfl)) fun c => ?_
    rw [if_neg c]
    refine T.dec (fun c => T.some (by rw [if_pos c]; rfl)) fun c => ?_
    rw [if_neg c]
    simp only [bk_eq h0 (show h ≤ 1000000000 by omega)]
    obtain ⟨s, hsd⟩ : ∃ s, s = styP s0 a h := ⟨_, rfl⟩
    obtain ⟨q, hq⟩ : ∃ q, q = kinP (kdR s a) h := ⟨_, rfl⟩
    obtain ⟨hv, hhv⟩ : ∃ hv, hv = heaP q s.2.1 h := ⟨_, rfl⟩
    have es : zgu (zgv s0 (posP s0 h)) (floP s0 (posP s0 h) a) = s := hsd.symm
    rw [← hsd, ← hq, ← hhv]
    have hhv2 : 0 ≤ hv ∧ hv ≤ h + 1 := by rw [hhv]; unfold heaP; split <;> omega
    obtain ⟨f, hf⟩ : ∃ f, f = fun c => buildP isLev kdR t.1 ss m c q hv := ⟨_, rfl⟩
    obtain ⟨ks, hks⟩ : ∃ ks, ks = kidsN t.1 i 0 := ⟨_, rfl⟩
    rw [← hks, ← hf]
    have hkl : ks.length ≤ t.1.length := by rw [hks]; exact Nat.le_trans yau (Nat.sub_le _ _)
    have hkm : ∀ c ∈ ks, i < c ∧ c < t.1.length := fun c hc => by
      rw [hks, zla] at hc
      obtain ⟨_, _, r, hr, hp⟩ := hc
      rw [Int.toNat_natCast] at hr
      have := ht.par c r hr
      have := (List.getElem?_eq_some_iff.1 hr).1
      omega
    unfold zcc
    refine T.bindE (show T (fun k _ => zsh k t i) (· = ks.map Int.ofNat) from hks ▸ kids_TE ht hk h2) ?_
    rw [es]
    have key : ∀ (m2 j : Nat) (z : Int × Int × Int × StyT × ByteArray × List BoxT), ks.length - j ≤ m2 → j ≤ ks.length → T (fun k n => zbh k (fun a0 a1 a2 a3 a4 => zbd k a0 a1 a2 a3 a4) n ss hv t z s (q,(i : Int),0, s, bs [],(ks.take j).filterMap f) (ks.map Int.ofNat) (((ks.take j).filterMap f).any isOut) (j : Int)) (· = outP (some (Tr.mk (fitK q (ks.filterMap f),(i : Int),0, s, bs [],()) (fitL isLev (fitK q (ks.filterMap f)) s (ks.filterMap f))))) := by
      intro m2
      have fin : ∀ j, j = ks.length → T (fun k _ => (bif decide (q = 6) then bif ((ks.take j).filterMap f).any isOut then zbv k (fun a0 a1 a2 a3 a4 => zbd k a0 a1 a2 a3 a4) 1 (q,(i : Int),0, s, bs [],(ks.take j).filterMap f) s (((ks.take j).filterMap f).any isOut) else zbv k (fun a0 a1 a2 a3 a4 => zbd k a0 a1 a2 a3 a4) q (q,(i : Int),0, s, bs [],(ks.take j).filterMap f) s (((ks.take j).filterMap f).any isOut) else zbv k (fun a0 a1 a2 a3 a4 => zbd k a0 a1 a2 a3 a4) q (q,(i : Int),0, s, bs [],(ks.take j).filterMap f) s (((ks.take j).filterMap f).any isOut))) (· = outP (some (Tr.mk (fitK q (ks.filterMap f),(i : Int),0, s, bs [],()) (fitL isLev (fitK q (ks.filterMap f)) s (ks.filterMap f))))) := fun j hj => by
        rw [List.take_of_length_le (by omega)]
        have hll : ((ks.filterMap f).length : Int) ≤ 1000000 := by have := List.length_filterMap_le f ks; omega
        unfold fitK
        by_cases c6 : q = 6
        · rw [decide_eq_true c6]
          cases ho : (ks.filterMap f).any isOut with
          | true =>
            rw [if_pos ⟨c6, rfl⟩]
            have := yh9 (S := fun k a0 a1 a2 a3 a4 => zbd k a0 a1 a2 a3 a4) (y := 1) (v := (q,(i : Int),0, s, bs [], ks.filterMap f)) (s := s) hll
            simp only [ho] at this
            exact this
          | false =>
            rw [if_neg (fun h => by cases h.2)]
            have := yh9 (S := fun k a0 a1 a2 a3 a4 => zbd k a0 a1 a2 a3 a4) (y := q) (v := (q,(i : Int),0, s, bs [], ks.filterMap f)) (s := s) hll
            simp only [ho] at this
            exact this
        · rw [decide_eq_false c6, if_neg (fun h => c6 h.1)]
          exact yh9 (S := fun k a0 a1 a2 a3 a4 => zbd k a0 a1 a2 a3 a4) (y := q) (v := (q,(i : Int),0, s, bs [], ks.filterMap f)) (s := s) hll
      induction m2 with
      | zero =>
        intro j z e1 e2
        refine T.step ?_
        unfold zbh
        exact T.dec (fun h => by simp at h; omega) fun _ => fin j (by omega)
      | succ m2 ih2 =>
        intro j z e1 e2
        refine T.step ?_
        unfold zbh
        refine T.dec (fun hj => T.get (by omega) (by simpa using hj) fun c hc => ?_) fun h => fin j (by simp at h; omega)
        have hj : j < ks.length := by simpa using hj
        rw [Int.toNat_natCast, List.getElem?_map] at hc
        obtain ⟨c', hc', rfl⟩ := Option.map_eq_some_iff.1 hc
        have hcm := hkm c' (List.mem_of_getElem? hc')
        have hfl := List.length_filterMap_le f (ks.take j)
        have htl := List.length_take_le j ks
        refine T.bindE (ih c' q hv (by omega) hcm.2 hhv2.1 (by omega)) ?_
        have nx : T (fun k n => zbh k (fun a0 a1 a2 a3 a4 => zbd k a0 a1 a2 a3 a4) n ss hv t z s (q,(i : Int),0, s, bs [],(ks.take (j + 1)).filterMap f) (ks.map Int.ofNat) (((ks.take (j + 1)).filterMap f).any isOut) (w64 ((j : Int) + 1))) (· = outP (some (Tr.mk (fitK q (ks.filterMap f),(i : Int),0, s, bs [],()) (fitL isLev (fitK q (ks.filterMap f)) s (ks.filterMap f))))) := by
          rw [show w64 ((j : Int) + 1) = ((j + 1 : Nat) : Int) by rw [w64i (by omega)]; omega]
          exact ih2 (j + 1) z (by omega) (by omega)
        rw [ygh hc'] at nx
        have hfc : buildP isLev kdR t.1 ss m c' q hv = f c' := by rw [hf]
        rw [hfc]
        cases hfo : f c' with
        | none =>
          rw [hfo] at nx
          simp only [Option.toList_none, List.append_nil] at nx
          unfold ze4
          exact nx
        | some b =>
          rw [hfo] at nx
          simp only [Option.toList_some, List.any_append, List.any_cons, List.any_nil, Bool.or_false] at nx
          refine T.app (by simp; omega) (by simp; omega) ?_
          unfold ze4
          simp only [Tr.eta]
          cases ho : ((ks.take j).filterMap f).any isOut with
          | true =>
            rw [ho] at nx
            exact nx
          | false =>
            rw [ho, Bool.false_or] at nx
            exact T.bindE (T.ofE ztt) nx
    exact key _ 0 _ (Nat.le_refl _) (Nat.zero_le _)
end Go.V
