/-
  Walks and laws of this seat.
-/
import Derived.Test.YteicdfkmpnmkmaaGreatPI
namespace Go.V
set_option linter.unusedVariables false
set_option linter.unusedSimpArgs false
set_option linter.unusedSectionVars false
set_option maxRecDepth 100000
open Go.RowKit Go.Sl
def kdP (s : StyT) (a : Int) : Int := (zhw s a).getD 0
theorem kindP_eq {s : StyT} {a : Int} : zhw s a = some (kdP s a) ∧ 1 ≤ kdP s a ∧ kdP s a ≤ 6 := by
  have : KdOk (zhw s a) := by
    unfold zhw zk9 zgi
    repeat' (first | exact KdOk.some (by decide) | refine KdOk.bif ?_ ?_)
  obtain ⟨r, h, h1, h2⟩ := this
  unfold kdP
  rw [h]
  exact ⟨rfl, h1, h2⟩
theorem kidsP_TE {t : TreT} (ht : TrOK t) (hk : TrK t) {i : Nat} (hi : i < t.1.length) : T (fun k _ => zv1 k t i) (· = (kidsN t.1 i 0).map Int.ofNat) := by
  have hl := ht.len
  have has : ∀ j : Int, zu0 t j = some (decide (0 ≤ j) && decide (j < t.1.length)) := fun j => by
    unfold zu0
    cases decide (0 ≤ j) <;> rfl
  have key : ∀ (m : Nat) (v : List Int) (j : Int) (lo : Nat), t.1.length - lo ≤ m → (v.length : Int) ≤ lo → ((j < 0 ∧ kidsN t.1 i lo = []) ∨ ∃ x : Nat, j = x ∧ lo ≤ x ∧ x < t.1.length ∧ KidOf t.1 (x : Nat) i ∧ kidsN t.1 i lo = x :: kidsN t.1 i (x + 1)) → T (fun _ n => ziv n t v j) (· = v ++ (kidsN t.1 i lo).map Int.ofNat) := by
    intro m
    have no : ∀ (v : List Int) (j : Int) (lo : Nat), j < 0 → kidsN t.1 i lo = [] → T (fun _ n => ziv n t v j) (· = v ++ (kidsN t.1 i lo).map Int.ofNat) := fun v j lo h4 h5 => by
      refine T.step ?_
      unfold ziv
      refine T.bindE (T.ofE (has j)) ?_
      rw [decide_eq_false (show ¬ 0 ≤ j by omega)]
      exact T.some (by rw [h5]; simp)
    induction m with
    | zero =>
      intro v j lo h1 h2 h3
      rcases h3 with ⟨h4, h5⟩ | ⟨x, _, _, _, _, _⟩
      · exact no v j lo h4 h5
      · omega
    | succ m ih =>
      intro v j lo h1 h2 h3
      rcases h3 with ⟨h4, h5⟩ | ⟨x, rfl, h4, h5, h6, h7⟩
      · exact no v j lo h4 h5
      · refine T.step ?_
        unfold ziv
        refine T.bindE (T.ofE (has _)) ?_
        rw [decide_eq_true (show (0 : Int) ≤ x by omega), decide_eq_true (show (x : Int) < t.1.length by omega)]
        refine T.dec (fun _ => T.app (by simp; omega) (by simp; omega) (T.get (by omega) (by omega) fun r hr => ?_)) fun _ => by omega
        have hr : t.1[x]? = some r := by simpa using hr
        rw [h7]
        have := ih (v ++ [(x : Int)]) r.2.2.2.2.2.2.2.2.1 (x + 1) (by omega) (by simp; omega) ((hk.next hr h6).imp id fun ⟨y, y1, y2, y3, y4, y5⟩ => ⟨y, y1, y2, y3, y4, y5⟩)
        simpa using this
  refine T.diag (F := fun _ n => zq1 n t i) ?_
  unfold zq1
  refine T.bindE (T.ofE (has _)) ?_
  rw [decide_eq_true (show (0 : Int) ≤ i by omega), decide_eq_true (show (i : Int) < t.1.length by omega)]
  refine T.get (by omega) (by omega) fun r hr => ?_
  have hr : t.1[i]? = some r := by simpa using hr
  have := key _ [] r.2.2.2.2.2.1 0 (Nat.le_refl _) (by simp) ((hk.first hr).imp id fun ⟨y, y1, y2, y3, y4⟩ => ⟨y, y1, by omega, y2, y3, y4⟩)
  simpa using this
section
variable {k : Nat} {S : Int → Int → Int → TreT → (List StyT) → (TreT × (List StyT)) → Option (BoxT × Bool)} {J : Int → (TreT × (List StyT)) → (Int × Int × Int × StyT × ByteArray × (List BoxT)) → (Int × Int × Int × StyT × ByteArray × (List BoxT)) → (List Int) → Int → Int → Option (BoxT × Bool)} {t : TreT} {u : TreT × List StyT} {i a h : Int} {r : StyT}
theorem pk5_eq {y6 y3 y4 : Int} (h0 : 0 ≤ h) (h1 : h ≤ 1000000000) : zde k S J y6 h t i u r y3 y4 = zbt k S J (heaP y6 y3 h) t i u y6 r y3 y4 := by
  unfold zde heaP
  rw [w64i (by omega)]
  by_cases c1 : y6 = 2
  · simp [c1]
  · by_cases c2 : y6 = 3
    · simp [c2]
    · by_cases c3 : y3 = 2
      · simp [c1, c2, c3]
      · by_cases c4 : y3 = 3
        · simp [c1, c2, c4]
        · simp [c1, c2, c3, c4]
theorem pk3_eq {y3 y4 : Int} (h0 : 0 ≤ h) (h1 : h ≤ 1000000000) : zcp k S J y4 r y3 a h t i u = zbt k S J (heaP (kinP (kdP (zgu (zgv r y3) y4) a) h) y3 h) t i u (kinP (kdP (zgu (zgv r y3) y4) a) h) r y3 y4 := by
  unfold zcp
  rw [kindP_eq.1]
  show (bif decide (4 ≤ h) then _ else _) = _
  unfold kinP
  simp only [pk5_eq h0 h1]
  generalize kdP (zgu (zgv r y3) y4) a = q
  by_cases c1 : 4 ≤ h
  · by_cases c2 : q = 2
    · simp [c1, c2]
    · by_cases c3 : q = 3
      · simp [c1, c3]
      · simp [c1, c2, c3]
  · simp [c1]
theorem pk1_eq {y3 : Int} (h0 : 0 ≤ h) (h1 : h ≤ 1000000000) : zan k S J y3 r a h t i u = zcp k S J (floP r y3 a) r y3 a h t i u := by
  unfold zan floP
  by_cases c1 : y3 = 2
  · simp [c1]
  · by_cases c2 : y3 = 3
    · simp [c2]
    · by_cases c3 : a = 2
      · simp [c1, c2, c3]
      · simp [c1, c2, c3]
theorem pk_eq (h0 : 0 ≤ h) (h1 : h ≤ 1000000000) : (bif decide (4 ≤ h) then bif decide (r.2.1 = 2) then (zan k S J 0 r a h t i u) else (bif decide (r.2.1 = 3) then (zan k S J 0 r a h t i u) else (zan k S J r.2.1 r a h t i u)) else (zan k S J r.2.1 r a h t i u)) =
    zbt k S J (heaP (kinP (kdP (styP r a h) a) h) (styP r a h).2.1 h) t i u (kinP (kdP (styP r a h) a) h) r (posP r h) (floP r (posP r h) a) := by
  have e : (bif decide (4 ≤ h) then bif decide (r.2.1 = 2) then (zan k S J 0 r a h t i u) else (bif decide (r.2.1 = 3) then (zan k S J 0 r a h t i u) else (zan k S J r.2.1 r a h t i u)) else (zan k S J r.2.1 r a h t i u)) = zan k S J (posP r h) r a h t i u := by
    unfold posP
    by_cases c1 : 4 ≤ h
    · by_cases c2 : r.2.1 = 2
      · simp [c1, c2]
      · by_cases c3 : r.2.1 = 3
        · simp [c1, c3]
        · simp [c1, c2, c3]
    · simp [c1]
  rw [e, pk1_eq h0 h1, pk3_eq h0 h1]
  rfl
end
theorem yel {t : TreT} (ht : TrOK t) (hk : TrK t) {ss : List StyT} (hs : ss.length = t.1.length) : ∀ (m i : Nat) (a h : Int), t.1.length - i ≤ m → i < t.1.length → 0 ≤ h → h ≤ i → T (fun k _ => zc1 k i a h t ss (t, ss)) (· = outP (buildP isInn kdP t.1 ss m i a h)) := by
  have hl := ht.len
  intro m
  induction m with
  | zero => intro i a h h1 h2; omega
  | succ m ih =>
    intro i a h h1 h2 h0 hh
    refine T.stepK ?_
    unfold zc1
    refine T.diag (F := fun k n => zid k (fun a0 a1 a2 a3 a4 a5 => zc1 k a0 a1 a2 a3 a4 a5) n i a h t ss (t, ss)) ?_
    unfold zid
    refine T.get (by omega) (by omega) fun x hx => T.get (by omega) (by omega) fun s0 hs0 => ?_
    have hx : t.1[i]? = some x := by simpa using hx
    have hs0 : ss[i]? = some s0 := by simpa using hs0
    rw [buildP, hx, hs0]
    simp only
    refine T.dec (fun c => T.some (by rw [if_pos c]; rfl)) fun c => ?_
    rw [if_neg c]
    refine T.dec (fun c => T.some (by rw [if_pos c]; rfl)) fun c => ?_
    rw [if_neg c]
    refine T.dec (fun c => T.some (by rw [if_pos c]; rfl)) fun c => ?_
    rw [if_neg c]
    simp only [pk_eq h0 (show h ≤ 1000000000 by omega)]
    obtain ⟨s, hsd⟩ : ∃ s, s = styP s0 a h := ⟨_, rfl⟩
    obtain ⟨q, hq⟩ : ∃ q, q = kinP (kdP s a) h := ⟨_, rfl⟩
    obtain ⟨hv, hhv⟩ : ∃ hv, hv = heaP q s.2.1 h := ⟨_, rfl⟩
    have es : zgu (zgv s0 (posP s0 h)) (floP s0 (posP s0 h) a) = s := hsd.symm
    rw [← hsd, ← hq, ← hhv]
    have hhv2 : 0 ≤ hv ∧ hv ≤ h + 1 := by rw [hhv]; unfold heaP; split <;> omega
    obtain ⟨f, hf⟩ : ∃ f, f = fun c => buildP isInn kdP t.1 ss m c q hv := ⟨_, rfl⟩
    obtain ⟨ks, hks⟩ : ∃ ks, ks = kidsN t.1 i 0 := ⟨_, rfl⟩
    rw [← hks, ← hf]
    have hkl : ks.length ≤ t.1.length := by rw [hks]; exact Nat.le_trans yau (Nat.sub_le _ _)
    have hkm : ∀ c ∈ ks, i < c ∧ c < t.1.length := fun c hc => by
      rw [hks, zla] at hc
      obtain ⟨_, _, r, hr, hp⟩ := hc
      rw [Int.toNat_natCast] at hr
      have := ht.par c r hr
      have := (List.getElem?_eq_some_iff.1 hr).1
      omega
    unfold zbt
    refine T.bindE (show T (fun k _ => zv1 k t i) (· = ks.map Int.ofNat) from hks ▸ kidsP_TE ht hk h2) ?_
    rw [es, show ((ks.map Int.ofNat).length : Int) = (ks.length : Int) by simp]
    have key : ∀ (m2 j : Nat) (z : Int × Int × Int × StyT × ByteArray × List BoxT), ks.length - j ≤ m2 → j ≤ ks.length → T (fun k n => zb8 k (fun a0 a1 a2 a3 a4 a5 => zc1 k a0 a1 a2 a3 a4 a5) n hv (t, ss) z (q,(i : Int),0, s, bs [],(ks.take j).filterMap f) (ks.map Int.ofNat) (ks.length : Int) (j : Int)) (· = outP (some (Tr.mk (fitK q (ks.filterMap f),(i : Int),0, s, bs [],()) (fitL isInn (fitK q (ks.filterMap f)) s (ks.filterMap f))))) := by
      intro m2
      have fin : ∀ j, j = ks.length → T (fun k _ => (za8 k (Tr.mk (q,(i : Int),0, s, bs [],()) ((ks.take j).filterMap f))).bind fun r13 => some ((Tr.mk r13.x r13.kids), true)) (· = outP (some (Tr.mk (fitK q (ks.filterMap f),(i : Int),0, s, bs [],()) (fitL isInn (fitK q (ks.filterMap f)) s (ks.filterMap f))))) := fun j hj => by
        rw [List.take_of_length_le (by omega)]
        have hll : ((ks.filterMap f).length : Int) ≤ 1000000 := by have := List.length_filterMap_le f ks; omega
        exact T.bindE (ygl (b := Tr.mk (q,(i : Int),0, s, bs [],()) (ks.filterMap f)) hll) (T.some (by rw [Tr.eta]; rfl))
      induction m2 with
      | zero =>
        intro j z e1 e2
        refine T.step ?_
        unfold zb8
        exact T.dec (fun h => by omega) fun _ => fin j (by omega)
      | succ m2 ih2 =>
        intro j z e1 e2
        refine T.step ?_
        unfold zb8
        refine T.dec (fun hj => T.get (by omega) (by simpa using hj) fun c hc => ?_) fun h => fin j (by omega)
        have hj : j < ks.length := by omega
        rw [Int.toNat_natCast, List.getElem?_map] at hc
        obtain ⟨c', hc', rfl⟩ := Option.map_eq_some_iff.1 hc
        have hcm := hkm c' (List.mem_of_getElem? hc')
        have hfl := List.length_filterMap_le f (ks.take j)
        have htl := List.length_take_le j ks
        refine T.bindE (ih c' q hv (by omega) hcm.2 hhv2.1 (by omega)) ?_
        have nx : T (fun k n => zb8 k (fun a0 a1 a2 a3 a4 a5 => zc1 k a0 a1 a2 a3 a4 a5) n hv (t, ss) z (q,(i : Int),0, s, bs [],(ks.take (j + 1)).filterMap f) (ks.map Int.ofNat) (ks.length : Int) (w64 ((j : Int) + 1))) (· = outP (some (Tr.mk (fitK q (ks.filterMap f),(i : Int),0, s, bs [],()) (fitL isInn (fitK q (ks.filterMap f)) s (ks.filterMap f))))) := by
          rw [show w64 ((j : Int) + 1) = ((j + 1 : Nat) : Int) by rw [w64i (by omega)]; omega]
          exact ih2 (j + 1) z (by omega) (by omega)
        rw [ygh hc'] at nx
        have hfc : buildP isInn kdP t.1 ss m c' q hv = f c' := by rw [hf]
        rw [hfc]
        cases hfo : f c' with
        | none =>
          rw [hfo] at nx
          simp only [Option.toList_none, List.append_nil] at nx
          unfold zes
          exact nx
        | some b =>
          rw [hfo] at nx
          simp only [Option.toList_some] at nx
          refine T.app (by simp; omega) (by simp; omega) ?_
          unfold zes
          simp only [Tr.eta]
          exact nx
    exact key _ 0 _ (Nat.le_refl _) (Nat.zero_le _)
theorem yai {t : TreT} (ht : TrOK t) (h0 : 0 < t.1.length) (hk : TrK t) {ss : List StyT} (hs : ss.length = t.1.length) : T (fun k _ => boxes_Build k t ss) (· = outP ((buildP isInn kdP t.1 ss t.1.length 0 0 0).map fun b => (numB b 0).1)) := by
  have hl := ht.len
  have hB := yel ht hk hs t.1.length 0 0 0 (Nat.le_refl _) h0 (Int.le_refl _) (Int.le_refl _)
  unfold boxes_Build Go.Proofs.YteicdfkmpnmkmaaGreat.boxes_Build
  refine T.bindE (ycc ht hk h0) (T.dec (fun h => absurd rfl h) fun _ => T.dec (fun h => by omega) fun _ => T.get (by omega) (by omega) fun s hs0 => ?_)
  have hs0 : ss[0]? = some s := by simpa using hs0
  obtain ⟨x, hx⟩ : ∃ x, t.1[0]? = some x := ⟨_, List.getElem?_eq_getElem h0⟩
  have hx1 := (hk.rt x hx).1
  obtain ⟨m, hm⟩ : ∃ m, t.1.length = m + 1 := ⟨t.1.length - 1, by omega⟩
  refine T.dec (fun h2 => T.some ?_) fun h2 => ?_
  · rw [hm, buildP, hx, hs0]
    simp only
    rw [if_neg (by omega), if_pos h2]; rfl
  refine T.bindE hB ?_
  cases hb : buildP isInn kdP t.1 ss t.1.length 0 0 0 with
  | none => exact T.some rfl
  | some b =>
    have hI := zph ht hk (fun b => ygb) h0 (e := t.1.length) (fun y hy => by
      obtain ⟨h1, r, hr⟩ := hy.pos
      have := (List.getElem?_eq_some_iff.1 hr).1
      omega) (by omega) hb
    have hn : (ndT b).Nodup := hI.srt.imp fun h e => by omega
    have ha : apartB b = true := decide_eq_true (ky_T b hI.gd hn).1
    show T (fun _ _ => bif apartB b then _ else _) _
    rw [ha]
    exact T.some rfl
end Go.V
