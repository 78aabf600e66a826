/-
  Walks and laws of this seat.
-/
import Derived.Test.YteicdfkmpnmkmaaGreatTc
namespace Go.V
set_option linter.unusedVariables false
set_option linter.unusedSimpArgs false
set_option linter.unusedSectionVars false
set_option maxRecDepth 100000
open Go.RowKit Go.Sl
def IsMin (S : Int → Prop) (x : Int) : Prop := (x = -1 ∧ ∀ c, ¬ S c) ∨ (0 ≤ x ∧ S x ∧ ∀ c, S c → x ≤ c)
def IsMax (S : Int → Prop) (x : Int) : Prop := (x = -1 ∧ ∀ c, ¬ S c) ∨ (0 ≤ x ∧ S x ∧ ∀ c, S c → c ≤ x)
theorem IsMin.congr {S S' : Int → Prop} {x : Int} (h : IsMin S x) (e : ∀ c, S c ↔ S' c) : IsMin S' x := by
  rcases h with ⟨h1, h2⟩ | ⟨h1, h2, h3⟩
  · exact .inl ⟨h1, fun c hc => h2 c ((e c).2 hc)⟩
  · exact .inr ⟨h1,(e x).1 h2, fun c hc => h3 c ((e c).2 hc)⟩
theorem IsMax.congr {S S' : Int → Prop} {x : Int} (h : IsMax S x) (e : ∀ c, S c ↔ S' c) : IsMax S' x := by
  rcases h with ⟨h1, h2⟩ | ⟨h1, h2, h3⟩
  · exact .inl ⟨h1, fun c hc => h2 c ((e c).2 hc)⟩
  · exact .inr ⟨h1,(e x).1 h2, fun c hc => h3 c ((e c).2 hc)⟩
theorem IsMin.more {S S' : Int → Prop} {x i : Int} (h : IsMin S x) (hx : 0 ≤ x) (e : ∀ c, S' c ↔ S c ∨ c = i) (hi : ∀ c, S c → c < i) : IsMin S' x := by
  rcases h with ⟨h1, h2⟩ | ⟨h1, h2, h3⟩
  · omega
  · refine .inr ⟨h1,(e x).2 (.inl h2), fun c hc => ?_⟩
    rcases (e c).1 hc with hc | rfl
    · exact h3 c hc
    · have := hi x h2; omega
theorem IsMin.first {S S' : Int → Prop} {x i : Int} (h : ∀ c, ¬ S c) (h0 : 0 ≤ i) (e : ∀ c, S' c ↔ S c ∨ c = i) : IsMin S' i :=
  .inr ⟨h0,(e i).2 (.inr rfl), fun c hc => by
    rcases (e c).1 hc with hc | rfl
    · exact absurd hc (h c)
    · exact Int.le_refl _⟩
theorem IsMax.last {S S' : Int → Prop} {i : Int} (h0 : 0 ≤ i) (e : ∀ c, S' c ↔ S c ∨ c = i) (hi : ∀ c, S c → c < i) : IsMax S' i :=
  .inr ⟨h0,(e i).2 (.inr rfl), fun c hc => by
    rcases (e c).1 hc with hc | rfl
    · have := hi c hc; omega
    · exact Int.le_refl _⟩
def KidOf (ns : List NodT) (c j : Int) : Prop := 0 < c ∧ ∃ r, ns[c.toNat]? = some r ∧ r.2.2.2.2.1 = j
structure KN (ns : List NodT) (i j p first last prev next : Int) : Prop where
  fs : IsMin (fun c => KidOf ns c j ∧ c < i) first
  ls : IsMax (fun c => KidOf ns c j ∧ c < i) last
  pv : IsMax (fun c => KidOf ns c p ∧ c < j) prev
  nx : IsMin (fun c => KidOf ns c p ∧ j < c ∧ c < i) next
def KX (ns v : List NodT) (i : Int) : Prop := ∀ (j : Nat) r q,(j : Int) < i → v[j]? = some r → ns[j]? = some q → KN ns i j q.2.2.2.2.1 r.2.2.2.2.2.1 r.2.2.2.2.2.2.1 r.2.2.2.2.2.2.2.1 r.2.2.2.2.2.2.2.2.1
section
variable {ns : List NodT} {i p : Int} {ri : NodT}
theorem KN.keep {j q a b c d : Int} (h : KN ns i j q a b c d) (hk : KidOf ns i p) (h1 : ∀ x, KidOf ns i x → x = p) (hj : j ≠ p) (hq : q ≠ p ∨ 0 ≤ d) (hji : j < i) : KN ns (i + 1) j q a b c d := by
  refine ⟨h.fs.congr fun c => ⟨fun h => ⟨h.1, by have := h.2; omega⟩, fun h => ⟨h.1, ?_⟩⟩, h.ls.congr fun c => ⟨fun h => ⟨h.1, by have := h.2; omega⟩, fun h => ⟨h.1, ?_⟩⟩, h.pv, ?_⟩
  · by_cases e : c = i
    · subst e; exact absurd (h1 _ h.1) hj
    · have := h.2; omega
  · by_cases e : c = i
    · subst e; exact absurd (h1 _ h.1) hj
    · have := h.2; omega
  · rcases hq with hq | hd
    · refine h.nx.congr fun c => ⟨fun h => ⟨h.1, h.2.1, by have := h.2; omega⟩, fun h => ⟨h.1, h.2.1, ?_⟩⟩
      by_cases e : c = i
      · subst e; exact absurd (h1 _ h.1) hq
      · have := h.2; omega
    · by_cases hqp : q = p
      · subst hqp
        refine h.nx.more (i := i) hd (fun c => ⟨fun h => ?_, fun h => ?_⟩) fun c hc => hc.2.2
        · by_cases e : c = i
          · exact .inr e
          · exact .inl ⟨h.1, h.2.1, by have := h.2; omega⟩
        · rcases h with h | rfl
          · exact ⟨h.1, h.2.1, by have := h.2; omega⟩
          · exact ⟨hk, hji, by omega⟩
      · refine h.nx.congr fun c => ⟨fun h => ⟨h.1, h.2.1, by have := h.2; omega⟩, fun h => ⟨h.1, h.2.1, ?_⟩⟩
        by_cases e : c = i
        · subst e; exact absurd (h1 _ h.1) hqp
        · have := h.2; omega
theorem KN.new {a b c d : Int} (h : KN ns i p ri.2.2.2.2.1 a b c d) (hpar : ∀ c x, KidOf ns c x → c < i + 1 → x < c) : KN ns (i + 1) i p (-1) (-1) b (-1) := by
  refine ⟨.inl ⟨by decide, fun c hc => ?_⟩, .inl ⟨by decide, fun c hc => ?_⟩, h.ls, .inl ⟨by decide, fun c hc => by have := hc.2; omega⟩⟩
  · have := hpar c i hc.1 hc.2; have := hc.2; omega
  · have := hpar c i hc.1 hc.2; have := hc.2; omega
theorem KN.parent {q a b c d : Int} (h : KN ns i p q a b c d) (hk : KidOf ns i p) (hi : 0 ≤ i) (h1 : ∀ x, KidOf ns i x → x = p) (hq : q ≠ p) : KN ns (i + 1) p q (if 0 ≤ b then a else i) i c d := by
  have e : ∀ c,(KidOf ns c p ∧ c < i + 1) ↔ (KidOf ns c p ∧ c < i) ∨ c = i := fun c => ⟨fun h => by
    by_cases e : c = i
    · exact .inr e
    · exact .inl ⟨h.1, by have := h.2; omega⟩, fun h => by
    rcases h with h | rfl
    · exact ⟨h.1, by have := h.2; omega⟩
    · exact ⟨hk, by omega⟩⟩
  refine ⟨?_, IsMax.last hi e fun c hc => hc.2, h.pv, ?_⟩
  · split
    · rename_i hb
      rcases h.fs with ⟨_, h2⟩ | ⟨h2, _⟩
      · rcases h.ls with ⟨h3, _⟩ | ⟨_, h3, _⟩
        · omega
        · exact absurd h3 (h2 _)
      · exact h.fs.more h2 e fun c hc => hc.2
    · rename_i hb
      rcases h.ls with ⟨_, h3⟩ | ⟨h3, _⟩
      · exact IsMin.first (x := 0) h3 hi e
      · omega
  · refine h.nx.congr fun c => ⟨fun h => ⟨h.1, h.2.1, by have := h.2; omega⟩, fun h => ⟨h.1, h.2.1, ?_⟩⟩
    by_cases e : c = i
    · subst e; exact absurd (h1 _ h.1) hq
    · have := h.2; omega
theorem KN.brother {l a b c d : Int} (h : KN ns i l p a b c d) (hl : IsMax (fun c => KidOf ns c p ∧ c < i) l) (hl0 : 0 ≤ l) (hk : KidOf ns i p) (hi : 0 ≤ i) (h1 : ∀ x, KidOf ns i x → x = p) (hlp : l ≠ p) : KN ns (i + 1) l p a b c i := by
  have hll : l < i := by
    rcases hl with ⟨h, _⟩ | ⟨_, h, _⟩
    · omega
    · exact h.2
  refine ⟨h.fs.congr fun c => ⟨fun h => ⟨h.1, by have := h.2; omega⟩, fun h => ⟨h.1, ?_⟩⟩, h.ls.congr fun c => ⟨fun h => ⟨h.1, by have := h.2; omega⟩, fun h => ⟨h.1, ?_⟩⟩, h.pv, ?_⟩
  · by_cases e : c = i
    · subst e; exact absurd (h1 _ h.1) hlp
    · have := h.2; omega
  · by_cases e : c = i
    · subst e; exact absurd (h1 _ h.1) hlp
    · have := h.2; omega
  · refine IsMin.first (S := fun c => KidOf ns c p ∧ l < c ∧ c < i) (x := 0) (fun c hc => ?_) hi fun c => ⟨fun h => ?_, fun h => ?_⟩
    · rcases hl with ⟨h, _⟩ | ⟨_, _, h⟩
      · omega
      · have := h c ⟨hc.1, hc.2.2⟩; have := hc.2; omega
    · by_cases e : c = i
      · exact .inr e
      · exact .inl ⟨h.1, h.2.1, by have := h.2; omega⟩
    · rcases h with h | rfl
      · exact ⟨h.1, h.2.1, by have := h.2; omega⟩
      · exact ⟨hk, hll, by omega⟩
end
theorem KX.step {ns v : List NodT} {i : Int} {r18 r8 : NodT} (h : KX ns v i) (hl : v.length = ns.length) (hi0 : 1 ≤ i) (h8 : ns[i.toNat]? = some r8) (a0 : 0 ≤ r8.2.2.2.2.1) (a1 : r8.2.2.2.2.1 < i) (hp : ∀ (j : Nat) r,(j : Int) < i + 1 → 0 < j → ns[j]? = some r → 0 ≤ r.2.2.2.2.1 ∧ r.2.2.2.2.1 < j) (h18 : v[r8.2.2.2.2.1.toNat]? = some r18) (hroot : ∀ q, ns[0]? = some q → q.2.2.2.2.1 = -1) :
    (0 ≤ r18.2.2.2.2.2.2.1 → ∀ r26,(v.set i.toNat (0,(bs []),(bs []),[], r8.2.2.2.2.1,(-1),(-1), r18.2.2.2.2.2.2.1,(-1),()))[r18.2.2.2.2.2.2.1.toNat]? = some r26 → ∀ x,((v.set i.toNat (0,(bs []),(bs []),[], r8.2.2.2.2.1,(-1),(-1), r18.2.2.2.2.2.2.1,(-1),())).set r18.2.2.2.2.2.2.1.toNat (zmg r26 i))[r8.2.2.2.2.1.toNat]? = some x → KX ns (((v.set i.toNat (0,(bs []),(bs []),[], r8.2.2.2.2.1,(-1),(-1), r18.2.2.2.2.2.2.1,(-1),())).set r18.2.2.2.2.2.2.1.toNat (zmg r26 i)).set r8.2.2.2.2.1.toNat (zjn x i)) (i + 1)) ∧
    (r18.2.2.2.2.2.2.1 < 0 → ∀ r28,(v.set i.toNat (0,(bs []),(bs []),[], r8.2.2.2.2.1,(-1),(-1), r18.2.2.2.2.2.2.1,(-1),()))[r8.2.2.2.2.1.toNat]? = some r28 → ∀ x,((v.set i.toNat (0,(bs []),(bs []),[], r8.2.2.2.2.1,(-1),(-1), r18.2.2.2.2.2.2.1,(-1),())).set r8.2.2.2.2.1.toNat (znq r28 i))[r8.2.2.2.2.1.toNat]? = some x → KX ns (((v.set i.toNat (0,(bs []),(bs []),[], r8.2.2.2.2.1,(-1),(-1), r18.2.2.2.2.2.2.1,(-1),())).set r8.2.2.2.2.1.toNat (znq r28 i)).set r8.2.2.2.2.1.toNat (zjn x i)) (i + 1)) := by
  have hil : i.toNat < ns.length := (List.getElem?_eq_some_iff.1 h8).1
  have hk : KidOf ns i r8.2.2.2.2.1 := ⟨by omega, r8, h8, rfl⟩
  have h1 : ∀ x, KidOf ns i x → x = r8.2.2.2.2.1 := fun x hx => by
    obtain ⟨_, r, hr, rfl⟩ := hx
    rw [h8] at hr; cases hr; rfl
  have hpar : ∀ c x, KidOf ns c x → c < i + 1 → x < c := fun c x hc hlt => by
    obtain ⟨h0, r, hr, rfl⟩ := hc
    have := (hp c.toNat r (by omega) (by omega) hr).2
    omega
  obtain ⟨qp, hqp⟩ : ∃ qp, ns[r8.2.2.2.2.1.toNat]? = some qp := ⟨_, List.getElem?_eq_getElem (by omega)⟩
  have hqp1 : qp.2.2.2.2.1 ≠ r8.2.2.2.2.1 := fun e => by
    by_cases e0 : r8.2.2.2.2.1 = 0
    · rw [e0] at hqp
      have := hroot _ hqp
      omega
    · have := hp _ _ (by omega) (by omega) hqp
      omega
  have hN18 := h _ _ _ (by omega) h18 hqp
  rw [Int.toNat_of_nonneg a0] at hN18
  have hnew := KN.new (ri := qp) hN18 hpar
  have hpn := KN.parent hN18 hk (by omega) h1 hqp1
  have hself : ∀ (w : List NodT) (a : Nat) (y r : NodT),(w.set a y)[a]? = some r → r = y := fun w a y r h => by
    rw [List.getElem?_set] at h
    simp only [if_true] at h
    split at h
    · exact (Option.some.inj h).symm
    · cases h
  refine ⟨fun d0 r26 h26 x hx j r q hj hr hq => ?_, fun d0 r28 h28 x hx j r q hj hr hq => ?_⟩
  · obtain ⟨hls1, hls2⟩ : KidOf ns r18.2.2.2.2.2.2.1 r8.2.2.2.2.1 ∧ r18.2.2.2.2.2.2.1 < i := by
      rcases hN18.ls with ⟨h, _⟩ | ⟨_, h, _⟩
      · omega
      · exact h
    have hlp := hpar _ _ hls1 (by omega)
    rw [List.getElem?_set_ne (by omega)] at h26
    rw [List.getElem?_set_ne (by omega), List.getElem?_set_ne (by omega), h18] at hx
    cases hx
    by_cases ep : j = r8.2.2.2.2.1.toNat
    · subst ep
      rw [hqp] at hq; cases hq
      rw [hself _ _ _ _ hr, Int.toNat_of_nonneg a0]
      simp only [zjn]
      rw [if_pos d0] at hpn
      exact hpn
    · rw [List.getElem?_set_ne (by omega)] at hr
      by_cases el : j = r18.2.2.2.2.2.2.1.toNat
      · subst el
        rw [hself _ _ _ _ hr]
        have hN := h _ _ _ (by omega) h26 hq
        rw [Int.toNat_of_nonneg d0] at hN ⊢
        have hq2 : q.2.2.2.2.1 = r8.2.2.2.2.1 := by
          obtain ⟨_, r', hr', e⟩ := hls1
          rw [hq] at hr'; cases hr'; exact e
        rw [hq2] at hN ⊢
        simp only [zmg]
        exact KN.brother hN hN18.ls d0 hk (by omega) h1 (by omega)
      · rw [List.getElem?_set_ne (by omega)] at hr
        by_cases ei : j = i.toNat
        · subst ei
          rw [h8] at hq; cases hq
          rw [hself _ _ _ _ hr, Int.toNat_of_nonneg (by omega)]
          exact hnew
        · rw [List.getElem?_set_ne (by omega)] at hr
          have hN := h j r q (by omega) hr hq
          refine hN.keep hk h1 (by omega) ?_ (by omega)
          by_cases e : q.2.2.2.2.1 = r8.2.2.2.2.1
          · refine .inr ?_
            have hj0 : 0 < j := Nat.pos_of_ne_zero fun e0 => by
              subst e0
              have := hroot _ hq
              omega
            have hkj : KidOf ns j r8.2.2.2.2.1 := ⟨by omega, q, by simpa using hq, e⟩
            have hle : (j : Int) ≤ r18.2.2.2.2.2.2.1 := by
              rcases hN18.ls with ⟨h, _⟩ | ⟨_, _, h⟩
              · omega
              · exact h _ ⟨hkj, by omega⟩
            rcases hN.nx with ⟨_, g⟩ | ⟨g, _⟩
            · rw [e] at g
              exact absurd ⟨hls1, by omega, hls2⟩ (g r18.2.2.2.2.2.2.1)
            · exact g
          · exact .inl e
  · have hno : ∀ c, ¬ (KidOf ns c r8.2.2.2.2.1 ∧ c < i) := by
      rcases hN18.ls with ⟨_, h⟩ | ⟨h, _⟩
      · exact h
      · omega
    rw [List.getElem?_set_ne (by omega), h18] at h28
    cases h28
    have ex := hself _ _ _ _ hx
    subst ex
    by_cases ep : j = r8.2.2.2.2.1.toNat
    · subst ep
      rw [hqp] at hq; cases hq
      rw [hself _ _ _ _ hr, Int.toNat_of_nonneg a0]
      simp only [zjn, znq]
      rw [if_neg (by omega)] at hpn
      exact hpn
    · rw [List.getElem?_set_ne (by omega), List.getElem?_set_ne (by omega)] at hr
      by_cases ei : j = i.toNat
      · subst ei
        rw [h8] at hq; cases hq
        rw [hself _ _ _ _ hr, Int.toNat_of_nonneg (by omega)]
        exact hnew
      · rw [List.getElem?_set_ne (by omega)] at hr
        have hN := h j r q (by omega) hr hq
        refine hN.keep hk h1 (by omega) (.inl fun e => ?_) (by omega)
        have hj0 : 0 < j := Nat.pos_of_ne_zero fun e0 => by
          subst e0
          have := hroot _ hq
          omega
        exact hno j ⟨⟨by omega, q, by simpa using hq, e⟩, by omega⟩
end Go.V
namespace Go.V
set_option linter.unusedVariables false
set_option linter.unusedSimpArgs false
set_option linter.unusedSectionVars false
set_option maxRecDepth 100000
open Go.RowKit Go.Sl
def NodeB (r : NodT) : Prop := r.2.1.size ≤ 2000000 ∧ r.2.2.1.size ≤ 2000000 ∧ (r.2.2.2.1.length : Int) ≤ 2000000 ∧ ∀ a ∈ r.2.2.2.1, a.1.size ≤ 2000000 ∧ a.2.1.size ≤ 2000000
def BulkT (t : TreT) : Prop := ∀ r ∈ t.1, NodeB r
def AttrsOK (l : List AttT) : Prop := (l.length : Int) ≤ 64 ∧ (∀ a ∈ l, a.1 ≠ bs []) ∧ l.Pairwise fun a b => a.1 ≠ b.1
theorem attrs_T {l : List AttT} (hl : (l.length : Int) ≤ 2000000) : T (fun k _ => ztk k l) fun r => r = true → AttrsOK l := by
  have k2 : ∀ (m : Nat) (i : Int), l.length - i.toNat ≤ m → 0 ≤ i → i ≤ l.length → (∀ (j : Nat) a,(j : Int) < i → l[j]? = some a → a.1 ≠ bs []) → (∀ (j j' : Nat) a b, j < j' → (j' : Int) < i → l[j]? = some a → l[j']? = some b → a.1 ≠ b.1) → T (fun _ n => zfj n l i) fun r => r = true → AttrsOK l := by
    have fin : ∀ i : Int, ¬ i < l.length → (∀ (j : Nat) a,(j : Int) < i → l[j]? = some a → a.1 ≠ bs []) → (∀ (j j' : Nat) a b, j < j' → (j' : Int) < i → l[j]? = some a → l[j']? = some b → a.1 ≠ b.1) → T (fun _ _ => some (decide ((l.length : Int) ≤ 64))) fun r => r = true → AttrsOK l := fun i hi h1 h2 => T.some fun e => ⟨of_decide_eq_true e, fun a ha => by
      obtain ⟨j, hj⟩ := List.getElem?_of_mem ha
      have := (List.getElem?_eq_some_iff.1 hj).1
      exact h1 j a (by omega) hj, List.pairwise_iff_getElem.2 fun i' j hi' hj hij => h2 i' j _ _ hij (by omega) (List.getElem?_eq_getElem hi') (List.getElem?_eq_getElem hj)⟩
    intro m
    induction m with
    | zero =>
      intro i h h0 h1 g1 g2
      refine T.step ?_
      unfold zfj
      exact T.dec (fun _ => by omega) fun hi => fin i hi g1 g2
    | succ m ih =>
      intro i h h0 h1 g1 g2
      refine T.step ?_
      unfold zfj
      refine T.dec (fun hi => T.get h0 hi fun x hx => T.dec (fun _ => T.some (by simp)) fun hx0 => ?_) fun hi => fin i hi g1 g2
      have k7 : ∀ (m2 : Nat) (j : Int),(i - j).toNat ≤ m2 → 0 ≤ j → j ≤ i → (∀ (j' : Nat) a,(j' : Int) < j → l[j']? = some a → a.1 ≠ x.1) → T (fun _ n => zhp n l i j) fun r => r = true → AttrsOK l := by
        have up : (∀ (j' : Nat) a,(j' : Int) < i → l[j']? = some a → a.1 ≠ x.1) → T (fun _ n => zfj n l (w64 (i + 1))) fun r => r = true → AttrsOK l := fun hG => by
          rw [w64i (by omega)]
          have one : ∀ (j : Nat) a, ¬ (j : Int) < i → (j : Int) < i + 1 → l[j]? = some a → a = x := fun j a hn hj hja => by
            have : j = i.toNat := by omega
            subst this
            rw [hx] at hja; cases hja; rfl
          refine ih _ (by omega) (by omega) (by omega) (fun j a hj hja => ?_) fun j j' a b hjj hj hja hjb => ?_
          · by_cases c : (j : Int) < i
            · exact g1 j a c hja
            · rw [one j a c hj hja]; exact hx0
          · by_cases c : (j' : Int) < i
            · exact g2 j j' a b hjj c hja hjb
            · rw [one j' b c hj hjb]; exact hG j a (by omega) hja
        intro m2
        induction m2 with
        | zero =>
          intro j h2 d0 d1 hG
          refine T.step ?_
          unfold zhp
          exact T.dec (fun _ => by omega) fun _ => up fun j' a hj => hG j' a (by omega)
        | succ m2 ih2 =>
          intro j h2 d0 d1 hG
          refine T.step ?_
          unfold zhp
          rw [w64i (i := j + 1) (by omega)]
          refine T.dec (fun hj => T.get d0 (by omega) fun y hy => T.get h0 hi fun x' hx' => T.dec (fun _ => T.some (by simp)) fun hne => ih2 _ (by omega) (by omega) (by omega) fun j' a hj' hja => ?_) fun _ => up fun j' a hj => hG j' a (by omega)
          rw [hx] at hx'; cases hx'
          by_cases c : (j' : Int) < j
          · exact hG j' a c hja
          · have : j' = j.toNat := by omega
            subst this
            rw [hy] at hja; cases hja; exact hne
      exact k7 _ 0 (Nat.le_refl _) (by omega) (by omega) fun j' a hj => by omega
  exact T.diag (F := fun _ n => zob n l) (k2 _ 0 (Nat.le_refl _) (by omega) (by omega) (fun j a hj => by omega) fun j j' a b _ hj => by omega)
def PlainOK (r : NodT) : Prop := (r.1 = 1 ∧ r.2.1 ≠ bs [] ∧ r.2.2.1 = bs [] ∧ AttrsOK r.2.2.2.1) ∨ (r.1 = 2 ∧ r.2.1 = bs [] ∧ r.2.2.1 ≠ bs [] ∧ (r.2.2.2.1.length : Int) = 0 ∧ r.2.2.2.2.2.1 = -1 ∧ r.2.2.2.2.2.2.1 = -1)
theorem yfo {r : NodT} (hr : NodeB r) : T (fun k _ => zmn k r) fun b => b = true → PlainOK r := by
  unfold zmn
  exact T.dec (fun h1 => T.dec (fun h2 => T.dec (fun h3 => T.bind (attrs_T hr.2.2.1) fun x hx => T.some fun e => .inl ⟨h1, h2, h3, hx e⟩) fun _ => T.some (by simp)) fun _ => T.some (by simp)) fun _ => T.dec (fun h1 => T.dec (fun h2 => T.dec (fun h3 => T.dec (fun h4 => T.dec (fun h5 => T.some fun e => .inr ⟨h1, h2, h3, h4, h5, of_decide_eq_true e⟩) fun _ => T.some (by simp)) fun _ => T.some (by simp)) fun _ => T.some (by simp)) fun _ => T.some (by simp)) fun _ => T.some (by simp)
inductive Dp (ns : List NodT) : Int → Nat → Prop
  | root : Dp ns 0 1
  | kid {y : Int} {r : NodT} {d : Nat} (h0 : 0 < y) (h : ns[y.toNat]? = some r) (g : Dp ns r.2.2.2.2.1 d) : Dp ns y (d + 1)
def PN (r : NodT) (j i : Int) : Prop := r.2.2.2.2.2.2.2.1 < j ∧ (r.2.2.2.2.2.2.2.2.1 = -1 ∨ (j < r.2.2.2.2.2.2.2.2.1 ∧ r.2.2.2.2.2.2.2.2.1 < i)) ∧ (r.2.2.2.2.2.2.1 < i ∧ (r.2.2.2.2.2.2.1 = -1 ∨ j < r.2.2.2.2.2.2.1)) ∧ (r.2.2.2.2.2.1 = -1 ∨ (j < r.2.2.2.2.2.1 ∧ r.2.2.2.2.2.1 < i))
def AP (v : List NodT) (b i : Int) : Prop := ∀ (j : Nat) r,(j : Int) < b → v[j]? = some r → PN r j i
theorem AP.set {v : List NodT} {b i : Int} (h : AP v b i) {a : Int} (ha : 0 ≤ a) {x : NodT} (hx : PN x a i) : AP (v.set a.toNat x) b i := fun j r hj hr => by
  rw [List.getElem?_set] at hr
  split at hr
  · rename_i e
    split at hr
    · cases hr
      have : (j : Int) = a := by omega
      rw [this]; exact hx
    · cases hr
  · exact h j r hj hr
theorem UpR.lt {ns : List NodT} {b : Int} (hp : ∀ (j : Nat) r,(j : Int) < b → 0 < j → ns[j]? = some r → 0 ≤ r.2.2.2.2.1 ∧ r.2.2.2.2.1 < j) {y a : Int} (h : UpR ns y a) : y < b → 0 ≤ a ∧ a < y := by
  induction h with
  | one h0 h => intro hb; have := hp _ _ (by omega) (by omega) h; omega
  | more h0 h g ih => intro hb; have := hp _ _ (by omega) (by omega) h; have := ih (by omega); omega
theorem UpR.pos {ns : List NodT} {y a : Int} (h : UpR ns y a) : 0 < y ∧ ∃ r, ns[y.toNat]? = some r := by
  cases h with
  | one h0 h => exact ⟨h0, _, h⟩
  | more h0 h g => exact ⟨h0, _, h⟩
def NX (ns w : List NodT) (st : List Int) (b : Int) : Prop := (∀ x ∈ st, ∀ r, w[x.toNat]? = some r → r.2.2.2.2.2.2.2.2.1 = -1) ∧ ∀ y a, y < b → UpR ns y a → ∀ r, w[a.toNat]? = some r → r.2.2.2.2.2.2.2.2.1 = -1 ∨ y < r.2.2.2.2.2.2.2.2.1
theorem NX.set {ns w : List NodT} {st : List Int} {b : Int} (h : NX ns w st b) {a : Int} {x r0 : NodT} (hr : w[a.toNat]? = some r0) (hx : x.2.2.2.2.2.2.2.2.1 = r0.2.2.2.2.2.2.2.2.1) : NX ns (w.set a.toNat x) st b := by
  have e : ∀ (j : Nat) r,(w.set a.toNat x)[j]? = some r → ∃ r', w[j]? = some r' ∧ r'.2.2.2.2.2.2.2.2.1 = r.2.2.2.2.2.2.2.2.1 := fun j r h => by
    rw [List.getElem?_set] at h
    split at h
    · rename_i e
      split at h
      · cases h
        exact ⟨r0, e ▸ hr, hx.symm⟩
      · cases h
    · exact ⟨r, h, rfl⟩
  refine ⟨fun y hy r h2 => ?_, fun y c hy hu r h2 => ?_⟩
  · obtain ⟨r', e1, e2⟩ := e _ r h2
    rw [← e2]; exact h.1 y hy r' e1
  · obtain ⟨r', e1, e2⟩ := e _ r h2
    rw [← e2]; exact h.2 y c hy hu r' e1
structure SK (ns : List NodT) (st : List Int) (i : Int) : Prop where
  rng : ∀ x ∈ st,0 ≤ x ∧ x < i
  len : (st.length : Int) ≤ i + 1
  srt : st.Pairwise (· < ·)
  chn : ∀ x ∈ st, ∀ a, UpR ns x a → a ∈ st
theorem SK.pop {ns : List NodT} {st : List Int} {i : Int} (h : SK ns st i) (hp : ∀ (j : Nat) r,(j : Int) < i → 0 < j → ns[j]? = some r → 0 ≤ r.2.2.2.2.1 ∧ r.2.2.2.2.1 < j) {st' : List Int} {z : Int} (e : st = st' ++ [z]) : SK ns st' i := by
  subst e
  have hs := List.pairwise_append.1 h.srt
  refine ⟨fun x hx => h.rng x (by simp [hx]), by have := h.len; simp at this; omega, hs.1, fun x hx a ha => ?_⟩
  have h1 := h.chn x (by simp [hx]) a ha
  rcases List.mem_append.1 h1 with h1 | h1
  · exact h1
  · rw [List.mem_singleton.1 h1] at ha
    have h2 := (ha.lt hp (h.rng x (by simp [hx])).2).2
    have h3 := hs.2.2 x hx z (by simp)
    omega
structure RInv (ns v : List NodT) (st : List Int) (q i : Int) : Prop where
  len : v.length = ns.length
  all : AP v i i
  par : ∀ (j : Nat) r,(j : Int) < i → 0 < j → ns[j]? = some r → 0 ≤ r.2.2.2.2.1 ∧ r.2.2.2.2.1 < j
  sk : SK ns st i
  nx : NX ns v st i
  kx : KX ns v i
  pl : ∀ (j : Nat) r,(j : Int) < i → ns[j]? = some r → PlainOK r
  el : ∀ (j : Nat) r p,(j : Int) < i → 0 < j → ns[j]? = some r → ns[r.2.2.2.2.1.toNat]? = some p → p.1 = 1
  d1 : ∀ (k : Nat) x, st[k]? = some x → Dp ns x (k + 1)
  d2 : ∀ (j : Nat),(j : Int) < i → ∃ d : Nat, Dp ns j d ∧ (d : Int) ≤ q
structure TrK (t : TreT) : Prop where
  kn : ∀ (j : Nat) r, t.1[j]? = some r → KN t.1 t.1.length j r.2.2.2.2.1 r.2.2.2.2.2.1 r.2.2.2.2.2.2.1 r.2.2.2.2.2.2.2.1 r.2.2.2.2.2.2.2.2.1
  pl : ∀ (j : Nat) r, t.1[j]? = some r → PlainOK r
  el : ∀ (j : Nat) r p,0 < j → t.1[j]? = some r → t.1[r.2.2.2.2.1.toNat]? = some p → p.1 = 1
  dp : ∀ (j : Nat), j < t.1.length → ∃ d : Nat, Dp t.1 j d ∧ d ≤ 256
  rt : ∀ r, t.1[0]? = some r → r.1 = 1 ∧ r.2.2.2.2.1 = -1 ∧ r.2.2.2.2.2.2.2.1 = -1 ∧ r.2.2.2.2.2.2.2.2.1 = -1
  big : (t.1.length : Int) ≤ 4096
theorem right_T {t : TreT} (hb : BulkT t) : T (fun k _ => ztl k t) fun r => r = 0 → TrOK t ∧ 0 < t.1.length ∧ TrK t := by
  refine T.diag (F := fun k n => zlr k n t) ?_
  unfold zlr
  refine T.dec (fun _ => T.some (fun h => absurd h (by decide))) fun hz => T.dec (fun _ => T.some (fun h => absurd h (by decide))) fun hl => ?_
  refine T.get (by omega) (by omega) fun _ ha1 => T.dec (fun _ => T.some (fun h => absurd h (by decide))) fun hr1 => T.get (by omega) (by omega) fun r2 h2 => T.dec (fun _ => T.some (fun h => absurd h (by decide))) fun hp => T.get (by omega) (by omega) fun _ ha3 => T.dec (fun _ => T.some (fun h => absurd h (by decide))) fun hr3 => T.get (by omega) (by omega) fun _ ha4 => T.dec (fun _ => T.some (fun h => absurd h (by decide))) fun hr4 => T.rep (by omega) (by omega) (by omega) fun v0 hv0 hv0l => T.get (by omega) (by omega) fun _ _ => T.get (by omega) (by omega) fun _ _ => ?_
  have hp : r2.2.2.2.2.1 = -1 := Classical.byContradiction hp
  rw [h2] at ha1 ha3 ha4
  cases ha1; cases ha3; cases ha4
  have hr1 := Classical.byContradiction hr1
  have hr3 := Classical.byContradiction hr3
  have hr4 := Classical.byContradiction hr4
  have k32 : ∀ (v : List NodT) (st : List Int) (q : Int), RInv t.1 v st q t.1.length → ∀ (m : Nat) (i : Int), t.1.length - i.toNat ≤ m → 0 ≤ i → i ≤ t.1.length → (∀ (j : Nat) r,(j : Int) < i → t.1[j]? = some r → r.2.2.2.2.2.2.2.1 < j ∧ (r.2.2.2.2.2.2.2.2.1 < 0 ∨ ((j : Int) < r.2.2.2.2.2.2.2.2.1 ∧ r.2.2.2.2.2.2.2.2.1 < t.1.length)) ∧ (r.2.2.2.2.2.1 < 0 ∨ ((j : Int) < r.2.2.2.2.2.1 ∧ r.2.2.2.2.2.1 < t.1.length)) ∧ ∃ r', v[j]? = some r' ∧ r'.2.2.2.2.2.1 = r.2.2.2.2.2.1 ∧ r'.2.2.2.2.2.2.1 = r.2.2.2.2.2.2.1 ∧ r'.2.2.2.2.2.2.2.1 = r.2.2.2.2.2.2.2.1 ∧ r'.2.2.2.2.2.2.2.2.1 = r.2.2.2.2.2.2.2.2.1) → T (fun k n => zg1 k n t.1 v q i) fun r => r = 0 → TrOK t ∧ 0 < t.1.length ∧ TrK t := by
    intro v st q hv m
    have fin : ∀ i : Int, ¬ i < t.1.length → (∀ (j : Nat) r,(j : Int) < i → t.1[j]? = some r → r.2.2.2.2.2.2.2.1 < j ∧ (r.2.2.2.2.2.2.2.2.1 < 0 ∨ ((j : Int) < r.2.2.2.2.2.2.2.2.1 ∧ r.2.2.2.2.2.2.2.2.1 < t.1.length)) ∧ (r.2.2.2.2.2.1 < 0 ∨ ((j : Int) < r.2.2.2.2.2.1 ∧ r.2.2.2.2.2.1 < t.1.length)) ∧ ∃ r', v[j]? = some r' ∧ r'.2.2.2.2.2.1 = r.2.2.2.2.2.1 ∧ r'.2.2.2.2.2.2.1 = r.2.2.2.2.2.2.1 ∧ r'.2.2.2.2.2.2.2.1 = r.2.2.2.2.2.2.2.1 ∧ r'.2.2.2.2.2.2.2.2.1 = r.2.2.2.2.2.2.2.2.1) → T (fun _ _ => bif decide (256 < q) then some (5 : Int) else some 0) fun r => r = 0 → TrOK t ∧ 0 < t.1.length ∧ TrK t := fun i hi h =>
      T.dec (fun _ => T.some (fun h => absurd h (by decide))) fun hq => T.some fun _ => by
        have lt : ∀ {j : Nat} {r : NodT}, t.1[j]? = some r → (j : Int) < i := fun hj => by have := (List.getElem?_eq_some_iff.1 hj).1; omega
        have lt2 : ∀ {j : Nat} {r : NodT}, t.1[j]? = some r → (j : Int) < t.1.length := fun hj => by have := (List.getElem?_eq_some_iff.1 hj).1; omega
        have hTK : TrK t := by
          refine ⟨fun j r hj => ?_, fun j r hj => hv.pl j r (lt2 hj) hj, fun j r p h0 hj hpp => hv.el j r p (lt2 hj) h0 hj hpp, fun j hj => ?_, fun r hr => ?_, by omega⟩
          · obtain ⟨r', e1, e2, e3, e4, e5⟩ := (h j r (lt hj) hj).2.2.2
            rw [← e2, ← e3, ← e4, ← e5]
            exact hv.kx j r' r (lt2 hj) e1 hj
          · obtain ⟨d, d1, d2⟩ := hv.d2 j (by omega)
            exact ⟨d, d1, by omega⟩
          · have : t.1[(0 : Int).toNat]? = some r := hr
            rw [h2] at this
            cases this
            exact ⟨hr1, hp, hr3, hr4⟩
        refine ⟨⟨by omega, fun j r hj => ?_, fun j r h0 hj => (hv.par j r (lt2 hj) h0 hj).1, fun j r hj => (h j r (lt hj) hj).1, fun j r hj => (h j r (lt hj) hj).2.1, fun j r hj => (h j r (lt hj) hj).2.2.1, fun y a hy r hr => ?_, fun j r hj => ?_⟩, by omega, hTK⟩
        rotate_left
        · obtain ⟨hy0, r1, hr1⟩ := hy.pos
          have hyl := lt2 hr1
          obtain ⟨r', e1, _, _, _, e2⟩ := (h _ r (lt hr) hr).2.2.2
          have := hv.nx.2 y a (by omega) hy r' e1
          rw [e2] at this
          exact this.imp (fun h => by omega) id
        rotate_right
        · cases j with
          | zero =>
            have : t.1[(0 : Int).toNat]? = some r := hj
            rw [h2] at this
            cases this
            omega
          | succ j => exact (hv.par _ r (lt2 hj) (by omega) hj).2
        · have := hb r (List.mem_of_getElem? hj)
          exact ⟨by have := this.2.2.1; omega, fun a ha => by have := (this.2.2.2 a ha).2; omega⟩
    induction m with
    | zero =>
      intro i h h0 h1 hd
      refine T.step ?_
      unfold zg1
      exact T.dec (fun _ => by omega) fun hi => fin i hi hd
    | succ m ih =>
      intro i h h0 h1 hd
      have hvl := hv.len
      refine T.step ?_
      unfold zg1
      rw [w64i (by omega)]
      refine T.dec (fun hi => T.get h0 hi fun a1 ha1 => T.get h0 (by omega) fun b1 hb1 => T.dec (fun _ => T.some (fun h => absurd h (by decide))) fun e0 => T.get h0 hi fun a3 ha3 => T.get h0 (by omega) fun b3 hb3 => T.dec (fun _ => T.some (fun h => absurd h (by decide))) fun e3 => T.get h0 hi fun a ha => T.get h0 (by omega) fun b hb' => T.dec (fun _ => T.some (fun h => absurd h (by decide))) fun e1 => T.get h0 hi fun a2 ha2 => T.get h0 (by omega) fun b2 hb2 => T.dec (fun _ => T.some (fun h => absurd h (by decide))) fun e2 => ?_) fun hi => fin i hi hd
      rw [ha] at ha2; cases ha2
      rw [hb'] at hb2; cases hb2
      rw [ha] at ha1; cases ha1
      rw [hb'] at hb1; cases hb1
      rw [ha] at ha3; cases ha3
      rw [hb'] at hb3; cases hb3
      have e3 := Classical.byContradiction e3
      have e0 := Classical.byContradiction e0
      have e1 := Classical.byContradiction e1
      have e2 := Classical.byContradiction e2
      refine ih _ (by omega) (by omega) (by omega) fun j r hj hr => ?_
      by_cases hji : (j : Int) < i
      · exact hd j r hji hr
      · have ej : j = i.toNat := by omega
        subst ej
        rw [ha] at hr; cases hr
        have p1 := (hv.all _ _ (by omega) hb').1
        have p2 := (hv.all _ _ (by omega) hb').2.1
        have p3 := (hv.all _ _ (by omega) hb').2.2.2
        rw [e0, e1, e2]
        exact ⟨p1, p2.imp (fun h => by omega) id, p3.imp (fun h => by omega) id, _, hb', rfl, e3.symm, rfl, rfl⟩
  have k13 : ∀ (m : Nat) (v : List NodT) (q : Int) (st : List Int) (i : Int), t.1.length - i.toNat ≤ m → 1 ≤ i → i ≤ t.1.length → RInv t.1 v st q i → T (fun k n => zba k n t.1 v q st i) fun r => r = 0 → TrOK t ∧ 0 < t.1.length ∧ TrK t := by
    intro m
    induction m with
    | zero =>
      intro v q st i h h0 h1 hv
      have e : i = t.1.length := by omega
      subst e
      refine T.step ?_
      unfold zba
      exact T.dec (fun _ => by omega) fun _ => k32 v st q hv _ 0 (Nat.le_refl _) (by omega) (by omega) (fun j r hj => by omega)
    | succ m ih =>
      intro v q st i h h0 h1 hv
      by_cases hi : i < t.1.length
      · have hvl := hv.len
        refine T.step ?_
        unfold zba
        refine T.dec (fun _ => T.get (by omega) hi fun r8 h8 => T.bind (yfo (hb r8 (List.mem_of_getElem? h8))) fun r9 hr9 => T.bif (fun _ => T.some (fun h => absurd h (by decide))) fun hb9 => T.dec (fun _ => by omega) fun _ => T.get (by omega) hi fun r10 h10 => ?_) fun h => absurd hi h
        -- behind the place where it is bound
        have par' : 0 ≤ r8.2.2.2.2.1 → r8.2.2.2.2.1 < i → ∀ (j : Nat) r,(j : Int) < i + 1 → 0 < j → t.1[j]? = some r → 0 ≤ r.2.2.2.2.1 ∧ r.2.2.2.2.1 < j := fun a0 a1 j r hj hj0 hr => by
          by_cases hji : (j : Int) < i
          · exact hv.par j r hji hj0 hr
          · have e : j = i.toNat := by omega
            subst e
            rw [h8] at hr; cases hr
            exact ⟨a0, by omega⟩
        rw [h8] at h10; cases h10
        have hpl := hr9 (by simpa using hb9)
        have one : ∀ (j : Nat) r, ¬ (j : Int) < i → (j : Int) < i + 1 → t.1[j]? = some r → j = i.toNat ∧ r = r8 := fun j r hn hj hjr => by
          have : j = i.toNat := by omega
          subst this
          rw [h8] at hjr; cases hjr; exact ⟨rfl, rfl⟩
        have pl' : ∀ (j : Nat) r,(j : Int) < i + 1 → t.1[j]? = some r → PlainOK r := fun j r hj hr => by
          by_cases c : (j : Int) < i
          · exact hv.pl j r c hr
          · rw [(one j r c hj hr).2]; exact hpl
        obtain ⟨MX, hMX⟩ : ∃ MX : Int → List Int → Prop, MX = fun q st => (∀ (j : Nat) r p,(j : Int) < i + 1 → 0 < j → t.1[j]? = some r → t.1[r.2.2.2.2.1.toNat]? = some p → p.1 = 1) ∧ (∀ (k : Nat) x, st[k]? = some x → Dp t.1 x (k + 1)) ∧ ∀ (j : Nat),(j : Int) < i + 1 → ∃ d : Nat, Dp t.1 j d ∧ (d : Int) ≤ q := ⟨_, rfl⟩
        have up : ∀ (w : List NodT) (q : Int) (st : List Int),0 ≤ r8.2.2.2.2.1 → r8.2.2.2.2.1 < i → w.length = t.1.length → AP w (i + 1) (i + 1) → SK t.1 st (i + 1) → NX t.1 w st (i + 1) → MX q st → KX t.1 w (i + 1) → T (fun k n => zba k n t.1 w q st (w64 (i + 1))) fun r => r = 0 → TrOK t ∧ 0 < t.1.length ∧ TrK t := fun w q st a0 a1 hw hA hs hl hM hK => by
          rw [w64i (by omega)]
          exact ih _ _ _ _ (by omega) (by omega) (by omega) (by rw [hMX] at hM; exact ⟨hw, hA, par' a0 a1, hs, hl, hK, pl', hM.1, hM.2.1, hM.2.2⟩)
        have c3 : ∀ (w : List NodT) (q : Int) (st : List Int),0 ≤ r8.2.2.2.2.1 → r8.2.2.2.2.1 < i → w.length = t.1.length → AP w (i + 1) (i + 1) → SK t.1 st (i + 1) → NX t.1 w st (i + 1) → MX q st → (∀ x, w[r8.2.2.2.2.1.toNat]? = some x → KX t.1 (w.set r8.2.2.2.2.1.toNat (zjn x i)) (i + 1)) → T (fun k n => zh7 k (zba k n) w r8.2.2.2.2.1 t.1 i q st) fun r => r = 0 → TrOK t ∧ 0 < t.1.length ∧ TrK t := fun w q st a0 a1 hw hA hs hl hM hK => by
          unfold zh7
          refine T.get a0 (by omega) fun _ _ => T.get a0 (by omega) fun x hx => up _ _ _ a0 a1 (by simpa using hw) (hA.set a0 ?_) hs (hl.set hx rfl) hM (hK _ hx)
          have := hA _ _ (by omega) hx
          exact ⟨by have := this.1; simp only [zjn]; omega, by have := this.2.1; simp only [zjn]; rw [Int.toNat_of_nonneg a0] at this; exact this, ⟨by simp only [zjn]; omega, .inr (by simp only [zjn]; omega)⟩, by have := this.2.2.2; simp only [zjn]; rw [Int.toNat_of_nonneg a0] at this; exact this⟩
        have c2 : ∀ (q : Int) (st : List Int),0 ≤ r8.2.2.2.2.1 → r8.2.2.2.2.1 < i → SK t.1 st i → NX t.1 v st i → r8.2.2.2.2.1 ∈ st → (∀ x ∈ st, x ≤ r8.2.2.2.2.1) → MX q (st ++ [i]) → T (fun k n => zh8 k (zba k n) q v r8.2.2.2.2.1 i t.1 (st ++ [i])) fun r => r = 0 → TrOK t ∧ 0 < t.1.length ∧ TrK t := fun q st a0 a1 hS hN hmem htop hM => by
          have hchn : ∀ a, UpR t.1 i a → a ∈ st := fun a ha => by
            cases ha with
            | one g0 g => rw [h8] at g; cases g; exact hmem
            | more g0 g g2 => rw [h8] at g; cases g; exact hS.chn _ hmem a g2
          have hSK : SK t.1 (st ++ [i]) (i + 1) := by
            refine ⟨zhe (fun x hx => ⟨(hS.rng x hx).1, by have := (hS.rng x hx).2; omega⟩) ⟨by omega, by omega⟩, by have := hS.len; simp; omega, ?_, fun x hx a ha => ?_⟩
            · refine List.pairwise_append.2 ⟨hS.srt, by simp, fun x hx y hy => ?_⟩
              rw [List.mem_singleton.1 hy]; exact (hS.rng x hx).2
            · rcases List.mem_append.1 hx with hx | hx
              · exact List.mem_append_left _ (hS.chn x hx a ha)
              · rw [List.mem_singleton.1 hx] at ha
                exact List.mem_append_left _ (hchn a ha)
          unfold zh8
          refine T.get a0 (by omega) fun _ _ => T.get a0 (by omega) fun r18 h18 => T.get (by omega) (by omega) fun _ _ => T.get (by omega) (by omega) fun _ _ => ?_
          have p18 := hv.all _ _ (by omega) h18
          have hstep := KX.step hv.kx hvl h0 h8 a0 a1 (par' a0 a1) h18 (fun q hq => by
            have hq : t.1[(0 : Int).toNat]? = some q := hq
            rw [h2] at hq; cases hq; exact hp)
          have hA : AP (v.set i.toNat (0,(bs []),(bs []),[], r8.2.2.2.2.1,(-1),(-1), r18.2.2.2.2.2.2.1,(-1),())) (i + 1) (i + 1) := fun j r hj hr => by
            rw [List.getElem?_set] at hr
            split at hr
            · rename_i e
              split at hr
              · cases hr
                exact ⟨by have := p18.2.2.1.1; simp only; omega, .inl rfl, ⟨by simp only; omega, .inl rfl⟩, .inl rfl⟩
              · cases hr
            · rename_i e
              have := hv.all j r (by omega) hr
              exact ⟨this.1, this.2.1.imp id (fun h => ⟨h.1, by omega⟩), ⟨by have := this.2.2.1.1; omega, this.2.2.1.2⟩, this.2.2.2.imp id (fun h => ⟨h.1, by omega⟩)⟩
          have hX : NX t.1 (v.set i.toNat (0,(bs []),(bs []),[], r8.2.2.2.2.1,(-1),(-1), r18.2.2.2.2.2.2.1,(-1),())) (st ++ [i]) (i + 1) := by
            refine ⟨fun x hx r hr => ?_, fun y a hy hu r hr => ?_⟩
            · rw [List.getElem?_set] at hr
              split at hr
              · split at hr
                · cases hr; rfl
                · cases hr
              · rename_i e
                rcases List.mem_append.1 hx with hx | hx
                · exact hN.1 x hx r hr
                · exact absurd (by rw [List.mem_singleton.1 hx]) e
            · have hlt := hu.lt (par' a0 a1) (by omega)
              rw [List.getElem?_set_ne (by omega)] at hr
              by_cases hyi : y < i
              · exact hN.2 y a hyi hu r hr
              · have e : y = i := by omega
                subst e
                exact .inl (hN.1 a (hchn a hu) r hr)
          refine T.get a0 (by simp; omega) fun _ _ => T.get a0 (by simp; omega) fun r22 h22 => T.dec (fun d0 => T.get a0 (by simp; omega) fun _ _ => T.get a0 (by simp; omega) fun r24 h24 => ?_) fun _ => T.get a0 (by simp; omega) fun _ _ => T.get a0 (by simp; omega) fun r28 h28 => ?_
          · rw [h22] at h24; cases h24
            have hl2 : r22.2.2.2.2.2.2.1 < i ∧ r8.2.2.2.2.1 < r22.2.2.2.2.2.2.1 := by
              have h22' := h22
              rw [List.getElem?_set_ne (by omega)] at h22'
              have := (hv.all _ _ (by omega) h22').2.2.1
              exact ⟨this.1, by rcases this.2 with h | h <;> omega⟩
            refine T.get d0 (by simp; omega) fun _ _ => T.get d0 (by simp; omega) fun r26 h26 => c3 _ _ _ a0 a1 (by simpa using hvl) (hA.set d0 ?_) hSK ?_ hM (fun x hx => ?_)
            · have := hA _ _ (by omega) h26
              exact ⟨by have := this.1; simp only [zmg]; omega, .inr (by simp only [zmg]; omega), by have := this.2.2.1; simp only [zmg]; rw [Int.toNat_of_nonneg d0] at this; exact this, by have := this.2.2.2; simp only [zmg]; rw [Int.toNat_of_nonneg d0] at this; exact this⟩
            · have hno : r22.2.2.2.2.2.2.1 ∉ st ++ [i] := fun h => by
                rcases List.mem_append.1 h with h | h
                · have := htop _ h; omega
                · have := List.mem_singleton.1 h; omega
              refine ⟨fun x hx r hr => ?_, fun y a hy hu r hr => ?_⟩
              · rw [List.getElem?_set] at hr
                split at hr
                · rename_i e
                  have hx0 := (hSK.rng x hx).1
                  exact absurd (by rw [show r22.2.2.2.2.2.2.1 = x by omega]; exact hx) hno
                · exact hX.1 x hx r hr
              · have hlt := hu.lt (par' a0 a1) (by omega)
                rw [List.getElem?_set] at hr
                split at hr
                · rename_i e
                  split at hr
                  · cases hr
                    have e2 : a = r22.2.2.2.2.2.2.1 := by omega
                    refine .inr ?_
                    simp only [zmg]
                    by_cases hyi : y < i
                    · exact hyi
                    · have e3 : y = i := by omega
                      subst e3
                      exact absurd (List.mem_append_left _ (e2 ▸ hchn a hu)) hno
                  · cases hr
                · exact hX.2 y a hy hu r hr
            · have e18 : r18 = r22 := by
                rw [List.getElem?_set_ne (by omega)] at h22
                rw [h18] at h22; exact Option.some.inj h22
              subst e18
              exact hstep.1 d0 _ h26 _ hx
          · refine c3 _ _ _ a0 a1 (by simpa using hvl) (hA.set a0 ?_) hSK (hX.set h28 rfl) hM (fun x hx => hstep.2 (by
              rw [List.getElem?_set_ne (by omega)] at h22
              rw [h18] at h22; cases h22
              omega) _ h28 _ hx)
            have := hA _ _ (by omega) h28
            exact ⟨by have := this.1; simp only [znq]; omega, by have := this.2.1; simp only [znq]; rw [Int.toNat_of_nonneg a0] at this; exact this, by have := this.2.2.1; simp only [znq]; rw [Int.toNat_of_nonneg a0] at this; exact this, .inr (by simp only [znq]; omega)⟩
        have c0 : ∀ (st : List Int), SK t.1 st i → NX t.1 v st i → (st.length = 0 ∨ (r8.2.2.2.2.1 ∈ st ∧ ∀ x ∈ st, x ≤ r8.2.2.2.2.1)) → (∀ (k : Nat) x, st[k]? = some x → Dp t.1 x (k + 1)) → (st.length = 0 ∨ st[st.length - 1]? = some r8.2.2.2.2.1) → T (fun k n => zh9 k (zba k n) st t.1 r8.2.2.2.2.1 i q v) fun r => r = 0 → TrOK t ∧ 0 < t.1.length ∧ TrK t := fun st hS hN hm hD hlast => by
          unfold zh9
          refine T.dec (fun _ => T.some (fun h => absurd h (by decide))) fun hne => ?_
          obtain ⟨hmem, htop⟩ := hm.resolve_left (by omega)
          obtain ⟨a0, a1⟩ := hS.rng _ hmem
          have hl := hS.len
          refine T.get a0 (by omega) fun rp hrp => T.dec (fun _ => T.some (fun h => absurd h (by decide))) fun hk1 => T.app (by simp; omega) (by simp; omega) ?_
          have hk1 := Classical.byContradiction hk1
          have hlast := hlast.resolve_left (by omega)
          have hDi : Dp t.1 i (st.length + 1) := by
            have := hD _ _ hlast
            rw [show st.length - 1 + 1 = st.length by omega] at this
            exact .kid (by omega) h8 this
          have mx : ∀ q', q ≤ q' → (st.length : Int) + 1 ≤ q' → MX q' (st ++ [i]) := fun q' hq1 hq2 => by
            rw [hMX]
            refine ⟨fun j r p hj hj0 hr hp => ?_, fun k x hx => ?_, fun j hj => ?_⟩
            · by_cases c : (j : Int) < i
              · exact hv.el j r p c hj0 hr hp
              · rw [(one j r c hj hr).2, hrp] at hp; cases hp; exact hk1
            · rw [List.getElem?_append] at hx
              split at hx
              · exact hD k x hx
              · rename_i hk
                have hk2 : k - st.length = 0 := by
                  have := (List.getElem?_eq_some_iff.1 hx).1
                  simp at this; omega
                rw [hk2] at hx
                cases hx
                rw [show k + 1 = st.length + 1 by omega]; exact hDi
            · by_cases c : (j : Int) < i
              · obtain ⟨d, d1, d2⟩ := hv.d2 j c
                exact ⟨d, d1, by omega⟩
              · rw [show ((j : Nat) : Int) = i by omega]
                exact ⟨_, hDi, by omega⟩
          exact T.dec (fun hq => c2 _ _ a0 a1 hS hN hmem htop (mx _ (by simp at hq ⊢; omega) (by simp))) fun hq => c2 _ _ a0 a1 hS hN hmem htop (mx _ (by omega) (by simp at hq; omega))
        have k19 : ∀ (m2 : Nat) (st : List Int), st.length ≤ m2 → SK t.1 st i → NX t.1 v st i → (∀ (k : Nat) x, st[k]? = some x → Dp t.1 x (k + 1)) → T (fun k n => zg2 k n t.1 v q st i r8.2.2.2.2.1) fun r => r = 0 → TrOK t ∧ 0 < t.1.length ∧ TrK t := by
          intro m2
          induction m2 with
          | zero =>
            intro st h2 hS hN hD
            refine T.step ?_
            unfold zg2
            exact T.dec (fun _ => by omega) fun _ => c0 st hS hN (.inl (by omega)) hD (.inl (by omega))
          | succ m2 ih2 =>
            intro st h2 hS hN hD
            have hl := hS.len
            refine T.step ?_
            unfold zg2
            rw [w64i (by omega)]
            refine T.dec (fun hp => T.get (by omega) (by omega) fun _ _ => T.get (by omega) (by omega) fun r12 h12 => ?_) fun hp => c0 st hS hN (.inl (by omega)) hD (.inl (by omega))
            have hlast : st = st.take (st.length - 1) ++ [r12] := by
              have e1 : ((st.length : Int) - 1).toNat = st.length - 1 := by omega
              rw [e1] at h12
              have e2 : st.drop (st.length - 1) = [r12] := by
                rw [List.drop_eq_getElem_cons (by omega)]
                have e3 : st[st.length - 1] = r12 := (List.getElem?_eq_some_iff.1 h12).2
                rw [e3, List.drop_eq_nil_of_le (by omega)]
              rw [← e2, List.take_append_drop]
            refine T.dec (fun _ => T.cut (by omega) (by omega) (by omega) fun r13 h13 hr13 => ?_) fun e => ?_
            · have e13 : r13 = st.take (st.length - 1) := by
                rw [h13, show ((st.length : Int) - 1).toNat = st.length - 1 by omega]; rfl
              subst e13
              exact ih2 _ (by omega) (hS.pop hv.par hlast) ⟨fun x hx => hN.1 x (List.mem_of_mem_take hx), hN.2⟩ fun k x hx => by
                rw [List.getElem?_take] at hx
                split at hx
                · exact hD k x hx
                · cases hx
            · have e := Classical.byContradiction e
              refine c0 st hS hN (.inr ⟨e ▸ List.mem_of_getElem? h12, fun x hx => ?_⟩) hD (.inr (by rw [← e, ← h12]; congr 1; omega))
              rw [hlast] at hx
              rcases List.mem_append.1 hx with hx | hx
              · have := hS.srt
                rw [hlast] at this
                have := (List.pairwise_append.1 this).2.2 x hx r12 (by simp)
                omega
              · have := List.mem_singleton.1 hx; omega
        exact k19 _ st (Nat.le_refl _) hv.sk hv.nx hv.d1
      · have e : i = t.1.length := by omega
        subst e
        refine T.step ?_
        unfold zba
        exact T.dec (fun h => absurd h hi) fun _ => k32 v st q hv _ 0 (Nat.le_refl _) (by omega) (by omega) (fun j r hj => by omega)
  refine T.step ?_
  unfold zba
  refine T.dec (fun h => T.get (by omega) h fun r8 h8 => T.bind (yfo (hb r8 (List.mem_of_getElem? h8))) fun r9 hr9 => T.bif (fun _ => T.some (fun h => absurd h (by decide))) fun hb9 => T.dec (fun _ => ?_) fun h => absurd rfl h) fun h => by omega
  have hpl := hr9 (by simpa using hb9)
  rw [w64i (by omega)]
  have up0 : ∀ y a, y < 1 → ¬ UpR t.1 y a := fun y a h hu => by have := hu.pos.1; omega
  refine k13 _ _ _ _ _ (Nat.le_refl _) (by omega) (by omega) ⟨by simp; omega, fun j r hj hr => ?_, fun j r hj hj0 => by omega, ⟨fun x hx => ?_, by simp, by simp, fun x hx a ha => ?_⟩, ⟨fun x hx r hr => ?_, fun y a hy hu => absurd hu (up0 y a hy)⟩, fun j r q hj hr hq => ?_, fun j r hj hr => ?_, fun j r p hj hj0 => by omega, fun k x hx => ?_, fun j hj => ⟨1, by rw [show ((j : Nat) : Int) = 0 by omega]; exact .root, by omega⟩⟩
  · have ej : j = 0 := by omega
    subst ej
    rw [show ((0 : Int).toNat) = 0 from rfl, List.getElem?_set_self (by omega)] at hr
    cases hr
    exact ⟨by simp, .inl rfl, ⟨by simp, .inl rfl⟩, .inl rfl⟩
  · rw [List.mem_singleton.1 hx]; omega
  · rw [List.mem_singleton.1 hx] at ha
    exact absurd ha (up0 _ _ (by omega))
  · rw [List.mem_singleton.1 hx, show ((0 : Int).toNat) = 0 from rfl, List.getElem?_set_self (by omega)] at hr
    cases hr
    rfl
  · have ej : j = 0 := by omega
    subst ej
    rw [show ((0 : Int).toNat) = 0 from rfl, List.getElem?_set_self (by omega)] at hr
    cases hr
    exact ⟨.inl ⟨by simp, fun c hc => by have := hc.1.1; omega⟩, .inl ⟨by simp, fun c hc => by have := hc.1.1; omega⟩, .inl ⟨by simp, fun c hc => by have := hc.1.1; omega⟩, .inl ⟨by simp, fun c hc => by have := hc.1.1; omega⟩⟩
  · have ej : j = 0 := by omega
    subst ej
    have : t.1[(0 : Int).toNat]? = some r := hr
    rw [h8] at this; cases this; exact hpl
  · cases k with
    | zero => simp at hx; subst hx; exact .root
    | succ k => simp at hx
end Go.V
namespace Go.V
set_option linter.unusedVariables false
set_option linter.unusedSimpArgs false
set_option linter.unusedSectionVars false
set_option maxRecDepth 100000
open Go.RowKit Go.Sl
theorem runes_T {s : ByteArray} (hs : s.size ≤ 70368744177664) : T (fun _ _ => runesM s) fun _ => True := by
  refine T.of (r := runesIn s) ?_ trivial
  unfold runesM
  rw [decide_eq_true hs]; rfl
theorem whole4_T {t : TreT} (hb : BulkT t) (hl : (t.1.length : Int) ≤ 1000000) : ∀ (m : Nat) (i : Int), t.1.length - i.toNat ≤ m → 0 ≤ i → i ≤ t.1.length → T (fun k n => zfu k n t i) fun _ => True := by
  intro m
  induction m with
  | zero =>
    intro i h h0 h1
    refine T.step ?_
    unfold zfu
    exact T.dec (fun _ => by omega) fun _ => T.some trivial
  | succ m ih =>
    intro i h h0 h1
    refine T.step ?_
    unfold zfu
    refine T.dec (fun hi => T.get h0 hi fun r hr => ?_) fun _ => T.some trivial
    have hn := hb r (List.mem_of_getElem? hr)
    have e1 : (bs [124]).size = 1 := rfl
    have b1 := hn.1
    have b2 := hn.2.1
    have b3 := hn.2.2.1
    have k8 : ∀ (m2 : Nat) (s : ByteArray) (j : Int), r.2.2.2.1.length - j.toNat ≤ m2 → 0 ≤ j → j ≤ r.2.2.2.1.length → (s.size : Int) ≤ 5000000 + 4000010 * j → T (fun k n => zht k n t i s j) fun _ => True := by
      have up : ∀ (s : ByteArray),(s.size : Int) ≤ 10000000000000 → T (fun k n => (runesM s).bind fun r15 => bif decide ((textOf r15) ≠ s) then some false else zfu k n t (w64 (i + 1))) fun _ => True := fun s hs => by
        rw [w64i (by omega)]
        exact T.bind (runes_T (by omega)) fun _ _ => T.dec (fun _ => T.some trivial) fun _ => ih _ (by omega) (by omega) (by omega)
      intro m2
      induction m2 with
      | zero =>
        intro s j h2 d0 d1 hs
        refine T.step ?_
        unfold zht
        refine T.get h0 hi fun r6 h6 => ?_
        rw [hr] at h6; cases h6
        exact T.dec (fun _ => by omega) fun _ => up s (by omega)
      | succ m2 ih2 =>
        intro s j h2 d0 d1 hs
        refine T.step ?_
        unfold zht
        refine T.get h0 hi fun r6 h6 => ?_
        rw [hr] at h6; cases h6
        refine T.dec (fun hj => T.addS (by omega) (T.get h0 hi fun r8 h8 => ?_)) fun _ => up s (by omega)
        rw [hr] at h8; cases h8
        refine T.get d0 hj fun a ha => ?_
        have hA := hn.2.2.2 a (List.mem_of_getElem? ha)
        refine T.addS (by rw [ByteArray.size_append]; omega) (T.addS (by simp only [ByteArray.size_append]; omega) (T.get h0 hi fun r12 h12 => ?_))
        rw [hr] at h12; cases h12
        refine T.get d0 hj fun a2 ha2 => ?_
        rw [ha] at ha2; cases ha2
        refine T.addS (by simp only [ByteArray.size_append]; omega) ?_
        rw [w64i (by omega)]
        exact ih2 _ _ (by omega) (by omega) (by omega) (by simp only [ByteArray.size_append]; omega)
    refine T.addS (by omega) (T.get h0 hi fun r4 h4 => ?_)
    rw [hr] at h4; cases h4
    exact T.addS (by rw [ByteArray.size_append]; omega) (k8 _ _ 0 (Nat.le_refl _) (by omega) (by omega) (by simp only [ByteArray.size_append]; omega))
theorem whole_TT {t : TreT} (hb : BulkT t) : T (fun k _ => ztv k t) fun b => b = true → TrOK t ∧ 0 < t.1.length ∧ TrK t := by
  refine T.diag (F := fun k n => zm0 k n t) ?_
  unfold zm0
  refine T.bind (right_T hb) fun r hr => T.dec (fun _ => T.some (by simp)) fun h => ?_
  have h0 := hr (Classical.byContradiction h)
  exact (whole4_T hb h0.1.len _ 0 (Nat.le_refl _) (by omega) (by omega)).mono fun _ _ _ => h0
theorem brief_T {t : TreT} (hl : (t.1.length : Int) ≤ 1000000) : T (fun k _ => ztx k t) fun _ => True := by
  have key : ∀ (m : Nat) (c i : Int), t.1.length - i.toNat ≤ m → 0 ≤ i → i ≤ t.1.length → T (fun _ n => zhu n t c i) fun _ => True := by
    intro m
    induction m with
    | zero =>
      intro c i h h0 h1
      refine T.step ?_
      unfold zhu
      exact T.dec (fun _ => by omega) fun _ => T.some trivial
    | succ m ih =>
      intro c i h h0 h1
      refine T.step ?_
      unfold zhu
      rw [w64i (i := i + 1) (by omega)]
      exact T.dec (fun hi => T.get h0 hi fun _ _ => ih _ _ (by omega) (by omega) (by omega)) fun _ => T.some trivial
  exact T.diag (F := fun _ n => zpc n t) (key _ _ 0 (Nat.le_refl _) (by omega) (by omega))
end Go.V
namespace Go.V
set_option linter.unusedVariables false
set_option linter.unusedSimpArgs false
set_option linter.unusedSectionVars false
set_option maxRecDepth 100000
open Go.RowKit Go.Sl
theorem T.stepK {α : Type} {F : Nat → Nat → Option α} {Q : α → Prop} (h : T (fun k n => F (k + 1) n) Q) : T F Q := by
  obtain ⟨r, h1, K, h2⟩ := h
  refine ⟨r, h1, K + 1, fun k n hk hn => ?_⟩
  obtain ⟨m, rfl⟩ : ∃ m, k = m + 1 := ⟨k - 1, by omega⟩
  exact h2 m n (by omega) (by omega)
end Go.V
