/-
  Walks and laws of this seat.
-/
import Derived.Test.YtklcdfnhdljkjaaPa
import Derived.Test.YtklcdfnhdljkjaaL6w
import Derived.Test.YtklcdfnhdljkjaaPb
namespace Go.Proofs.Ytklcdfnhdljkjaa
set_option linter.unusedVariables false
set_option linter.unusedSimpArgs false
open Go.RowKit Go.Sl
def voids : List ByteArray := [bs [98, 114], bs [104, 114], bs [105, 109, 103], bs [105, 110, 112, 117, 116], bs [108, 105, 110, 107], bs [109, 101, 116, 97]]
def nTable : ByteArray := bs [116, 97, 98, 108, 101]
def nTr : ByteArray := bs [116, 114]
def nTd : ByteArray := bs [116, 100]
def nP : ByteArray := bs [112]
def Rel (p n : ByteArray) : Prop := ¬ (n = p ∧ (n = nTr ∨ n = nTd ∨ n = nP)) ∧ (p = nTable → n ≠ bs [] → n = nTr)
def adjP : List zad → Prop
  | [] => True
  | a :: r => (∀ c ∈ r.head?, ¬ (a.Name = bs [] ∧ c.Name = bs [])) ∧ adjP r
mutual
def goodP : zad → Prop
  | ⟨nm, tx, at_, ks⟩ => (nm = bs [] → tx ≠ bs []) ∧ (nm ≠ bs [] → at_.length ≤ 64 ∧ (∀ i, attP at_ i) ∧ (nm ∈ voids → ks = []) ∧ (∀ k ∈ ks, Rel nm k.Name) ∧ adjP ks ∧ goodPs ks)
def goodPs : List zad → Prop
  | [] => True
  | k :: ks => goodP k ∧ goodPs ks
end
mutual
def hgt : zad → Nat
  | ⟨_, _, _, ks⟩ => 1 + hgts ks
def hgts : List zad → Nat
  | [] => 0
  | k :: ks => max (hgt k) (hgts ks)
end
theorem zqv : ∀ (ks : List zad) (b : Nat) (pr : Int), ks ≠ [] → ∃ c : Nat, lastOf ks b pr = (c : Int)
  | [], _, _, h => absurd rfl h
  | k :: ks, b, pr, _ => by
    by_cases h : ks = []
    · subst h; exact ⟨b, rfl⟩
    · exact zqv ks (b + nsz k) b h
section
variable (ns : List zac)
def factP (j : Nat) : Prop := aloneP (nd ns j) ∧ ((nd ns j).Name ∈ voids → (nd ns j).First = -1)
def kidP (j : Nat) : Prop := okS ns (j - 1) ∧ stepP ns j ∧ Rel (nd ns (par ns j).toNat).Name (nd ns j).Name ∧ ((nd ns j).Kind = 2 → 0 ≤ (nd ns j).Next → (nd ns j).Next < ns.length ∧ (nd ns (nd ns j).Next.toNat).Kind ≠ 2)
def endL (e m : Nat) : Prop := (nd ns m).Last = lastc ns e m ∧ (lastc ns e m = -1 → (nd ns m).First = -1) ∧ (lastc ns e m ≠ -1 → (nd ns (lastc ns e m).toNat).Next = -1)
def segP (b : Nat) (l : List zac) : Prop := ∀ j x, l[j]? = some x → b + j < ns.length ∧ nd ns (b + j) = x
variable {ns}
theorem segP.left {b : Nat} {l r : List zac} (h : segP ns b (l ++ r)) : segP ns b l := fun j x hx => h j x (by rw [List.getElem?_append_left (List.getElem?_eq_some_iff.1 hx).1]; exact hx)
theorem segP.right {b : Nat} {l r : List zac} (h : segP ns b (l ++ r)) : segP ns (b + l.length) r := fun j x hx => by
  have := h (l.length + j) x (by rw [List.getElem?_append_right (by omega), Nat.add_sub_cancel_left]; exact hx)
  rwa [Nat.add_assoc]
theorem zqu {e a : Nat} {p : Int} (h : ∀ j, a < j → j ≤ e → par ns j ≠ p) (ha : a ≤ e) : lastc ns e p = lastc ns a p := by
  induction e with
  | zero => rw [show a = 0 by omega]
  | succ e ih =>
    by_cases q : a = e + 1
    · rw [q]
    · rw [zma, if_neg (h (e + 1) (by omega) (Nat.le_refl _)), ih (fun j h1 h2 => h j h1 (by omega)) (by omega)]
theorem endL.more {e e' m : Nat} (h : endL ns e m) (he : e ≤ e') (hp : ∀ j, e < j → j ≤ e' → par ns j ≠ m) : endL ns e' m := by
  unfold endL
  rw [zqu hp he]; exact h
theorem row_cons' {i : Nat} (h : good ns i) : ∃ tl, row ns i = (i : Int) :: tl := by
  obtain ⟨tl, h1, _⟩ := good.inv ns h
  exact ⟨tl, h1⟩
theorem pop_self {i : Nat} (h : good ns i) : pop i (row ns i) = row ns i := by
  obtain ⟨tl, e⟩ := row_cons' h
  rw [e, zpf]
theorem zpn (p : zad) (b : Nat) (pa pr nx : Int) : ∃ x r, lay p b pa pr nx = x :: r ∧ x.Parent = pa ∧ x.Prev = pr ∧ x.Next = nx ∧ x.Name = p.Name ∧ (x.Kind = 2 ↔ p.Name = bs []) ∧ (x.Kind = 1 ↔ p.Name ≠ bs []) := by
  by_cases h : p.Name = bs []
  · exact ⟨_, _, by rw [zm8 h], rfl, rfl, rfl, h.symm, by simp [tnode, h], by simp [tnode, h]⟩
  · exact ⟨_, _, by rw [zl4 h], rfl, rfl, rfl, rfl, by simp [enode, h], by simp [enode, h]⟩
theorem lays_head' (k : zad) (ks : List zad) (b : Nat) (pa pr nx : Int) (h : segP ns b (lays (k :: ks) b pa pr nx)) : b < ns.length ∧ (nd ns b).Name = k.Name ∧ ((nd ns b).Kind = 2 → k.Name = bs []) := by
  obtain ⟨x, r, e1, _, _, _, e5, e6, _⟩ := zpn k b pa pr (if ks.length = 0 then nx else ((b + nsz k : Nat) : Int))
  simp only [lays] at h
  obtain ⟨h1, h2⟩ := h 0 x (by rw [e1]; rfl)
  rw [Nat.add_zero] at h1 h2
  exact ⟨h1, by rw [h2, e5], fun hk => e6.1 (by rw [← h2]; exact hk)⟩
theorem row_succ (i : Nat) : row ns (i + 1) = ((i + 1 : Nat) : Int) :: pop (par ns (i + 1)) (row ns i) := rfl
mutual
theorem lay_claim : ∀ (p : zad) (b : Nat) (pa pr nx : Int), goodP p → segP ns b (lay p b pa pr nx) → good ns b →
    good ns (b + nsz p - 1) ∧ (∀ z : Nat, z < b → pop z (row ns (b + nsz p - 1)) = pop z (row ns b)) ∧ (∀ j, b < j → j < b + nsz p → kidP ns j ∧ (b : Int) ≤ par ns j) ∧
    (∀ j, b ≤ j → j < b + nsz p → factP ns j ∧ endL ns (b + nsz p - 1) j ∧ (row ns j).length + 1 ≤ (row ns b).length + hgt p)
  | ⟨nm, tx, at_, ks⟩, b, pa, pr, nx, hg, hs, hb => by
    unfold goodP at hg
    by_cases h : nm = bs []
    · have e0 : lay ⟨nm, tx, at_, ks⟩ b pa pr nx = [tnode tx pa pr nx] := zm8 h ..
      have e1 : nsz ⟨nm, tx, at_, ks⟩ = 1 := nsz_text h
      rw [e0] at hs
      obtain ⟨_, h2⟩ := hs 0 _ rfl
      rw [Nat.add_zero] at h2
      rw [e1, Nat.add_sub_cancel]
      have hl := good.lastc_none ns hb b (Nat.le_refl _)
      refine ⟨hb, fun _ _ => rfl, fun j h1 h2 => by omega, fun j h1 h3 => ?_⟩
      obtain rfl : j = b := by omega
      refine ⟨⟨?_, fun _ => by rw [h2]; rfl⟩, ⟨by rw [h2, hl]; rfl, fun _ => by rw [h2]; rfl, fun q => absurd hl q⟩, by simp only [hgt]; omega⟩
      rw [h2]
      exact .inl ⟨rfl, rfl, hg.1 h, rfl, rfl, rfl⟩
    · have e0 := zl4 (p := ⟨nm, tx, at_, ks⟩) h b pa pr nx
      have e1 : nsz ⟨nm, tx, at_, ks⟩ = 1 + nszs ks := nsz_elem h
      obtain ⟨g1, g2, g3, g4, g5, g6⟩ := hg.2 h
      rw [e0] at hs
      obtain ⟨_, h2⟩ := hs 0 _ rfl
      rw [Nat.add_zero] at h2
      have hs2 : segP ns (b + 1) (lays ks (b + 1) b (-1) (-1)) := segP.right (l := [_]) hs
      have hl := good.lastc_none ns hb b (Nat.le_refl _)
      have hk : (nd ns b).Kind = 1 := by rw [h2]; rfl
      have hn : (nd ns b).Name = nm := by rw [h2]; rfl
      obtain ⟨c1, c2, c3, c4, c5, c6⟩ := zqt ks (b + 1) b (-1) g6 g5 (by rw [hn]; exact g4) hs2 (by omega) (by omega) (by simpa using hb) hb (fun z _ => by simp) hk (by simpa using hl)
        (fun hne => ⟨fun _ => by rw [h2]; simp only [enode, List.length_eq_zero_iff, hne]; rfl, fun q => absurd rfl q⟩)
      have ee : b + nsz ⟨nm, tx, at_, ks⟩ - 1 = b + 1 + nszs ks - 1 := by rw [e1]; omega
      rw [ee, e1]
      refine ⟨c1, fun z hz => c2 z (by omega), fun j j1 j2 => ⟨(c5 j (by omega) (by omega)).1, ?_⟩, fun j j1 j2 => ?_⟩
      · rcases (c5 j (by omega) (by omega)).2 with q | q <;> omega
      · by_cases hj : j = b
        · subst hj
          refine ⟨⟨.inr ⟨hk, by rw [hn]; exact h, by rw [h2]; rfl, by rw [h2]; exact g1, by rw [h2]; exact g2⟩, fun hv => ?_⟩, ⟨by rw [c3, h2]; rfl, fun q => ?_, fun q => ?_⟩, by simp only [hgt]; omega⟩
          · rw [hn] at hv
            have := g3 hv
            subst this
            rw [h2]; rfl
          · by_cases hne : ks = []
            · subst hne; rw [h2]; rfl
            · obtain ⟨c, hc⟩ := zqv ks (j + 1) (-1) hne
              rw [c3, hc] at q; omega
          · rw [c3]
            refine c4 fun hne => ?_
            subst hne
            rw [c3] at q; exact q rfl
        · obtain ⟨d1, d2, d3⟩ := c6 j (by omega) (by omega)
          refine ⟨d1, d2, ?_⟩
          simp only [hgt]; omega
theorem zqt : ∀ (ks : List zad) (b q : Nat) (pr : Int), goodPs ks → adjP ks → (∀ k ∈ ks, Rel (nd ns q).Name k.Name) → segP ns b (lays ks b q pr (-1)) → 1 ≤ b → q < b → good ns (b - 1) → good ns q → (∀ z : Nat, z ≤ q → pop z (row ns (b - 1)) = pop z (row ns q)) →
    (nd ns q).Kind = 1 → lastc ns (b - 1) q = pr → (ks ≠ [] → (pr = -1 → (nd ns q).First = b) ∧ (pr ≠ -1 → (nd ns pr.toNat).Next = b)) →
    good ns (b + nszs ks - 1) ∧ (∀ z : Nat, z ≤ q → pop z (row ns (b + nszs ks - 1)) = pop z (row ns q)) ∧ lastc ns (b + nszs ks - 1) q = lastOf ks b pr ∧ (ks ≠ [] → (nd ns (lastOf ks b pr).toNat).Next = -1) ∧
    (∀ j, b ≤ j → j < b + nszs ks → kidP ns j ∧ (par ns j = q ∨ (b : Int) ≤ par ns j)) ∧
    (∀ j, b ≤ j → j < b + nszs ks → factP ns j ∧ endL ns (b + nszs ks - 1) j ∧ (row ns j).length ≤ (row ns q).length + hgts ks)
  | [], b, q, pr, _, _, _, _, _, _, hb, _, hz, _, hl, _ => by
    simp only [nszs, Nat.add_zero, lastOf]
    exact ⟨hb, hz, hl, fun h => absurd rfl h, fun j h1 h2 => by omega, fun j h1 h2 => by omega⟩
  | k :: ks, b, q, pr, hg, ha, hr, hs, h1, hqb, hb, hgq, hz, hk, hl, hf => by
    obtain ⟨b, rfl⟩ : ∃ c, b = c + 1 := ⟨b - 1, by omega⟩
    rw [Nat.add_sub_cancel] at hb hz hl
    unfold goodPs at hg
    unfold adjP at ha
    have hs0 := hs
    simp only [lays] at hs
    have hs1 := hs.left
    have hs2 := hs.right
    rw [zl3] at hs2
    obtain ⟨f1, f2⟩ := hf (by simp)
    obtain ⟨x, r, a1, a2, a3, a4, a5, a6, a7⟩ := zpn k (b + 1) q pr (if ks.length = 0 then -1 else ((b + 1 + nsz k : Nat) : Int))
    obtain ⟨h0, hx⟩ := hs1 0 x (by rw [a1]; rfl)
    rw [Nat.add_zero] at h0 hx
    have hpar : par ns (b + 1) = q := by unfold par; rw [hx, a2]
    have hpop := hz q (Nat.le_refl _)
    rw [pop_self hgq] at hpop
    obtain ⟨tl, htl⟩ := row_cons' hgq
    have hok : okS ns b := ⟨by rw [hpar, hpop, htl]; simp, by rw [hpar]; simpa using hk⟩
    have hgb : good ns (b + 1) := ⟨hb, hok⟩
    have hrow : row ns (b + 1) = ((b + 1 : Nat) : Int) :: row ns q := by rw [row_succ, hpar, hpop]
    have hpos := zo0 k
    obtain ⟨c1, c2, c3, c4⟩ := lay_claim k (b + 1) q pr _ hg.1 hs1 hgb
    have hlast : lastc ns (b + 1 + nsz k - 1) q = ((b + 1 : Nat) : Int) := by
      rw [zqu (a := b + 1) (fun j j1 j2 => by have := (c3 j j1 (by omega)).2; omega) (by omega), zma, if_pos hpar]
    have hnext : (nd ns (b + 1)).Next = if ks.length = 0 then -1 else ((b + 1 + nsz k : Nat) : Int) := by rw [hx, a4]
    have hrk := hr k (by simp)
    obtain ⟨d1, d2, d3, d4, d5, d6⟩ := zqt ks (b + 1 + nsz k) q ((b + 1 : Nat) : Int) hg.2 ha.2 (fun k' hk' => hr k' (by simp [hk'])) hs2 (by omega) (by omega) c1 hgq
      (fun z hzq => by
        rw [c2 z (by omega), hrow]
        rw [zju]
        omega) hk hlast (fun hne => ⟨fun e => by omega, fun _ => by
          rw [show ((b + 1 : Nat) : Int).toNat = b + 1 by omega, hnext, if_neg (by rw [List.length_eq_zero_iff]; exact hne)]⟩)
    have ee : b + 1 + nszs (k :: ks) - 1 = b + 1 + nsz k + nszs ks - 1 := by simp only [nszs]; omega
    have e2 : nszs (k :: ks) = nsz k + nszs ks := rfl
    rw [ee, e2]
    have el : lastOf (k :: ks) (b + 1) pr = lastOf ks (b + 1 + nsz k) ((b + 1 : Nat) : Int) := rfl
    rw [el]
    have hh : hgts (k :: ks) = max (hgt k) (hgts ks) := rfl
    refine ⟨d1, d2, d3, fun _ => ?_, fun j j1 j2 => ?_, fun j j1 j2 => ?_⟩
    · by_cases hne : ks = []
      · subst hne
        simp only [lastOf]
        rw [show ((b + 1 : Nat) : Int).toNat = b + 1 by omega, hnext]; rfl
      · exact d4 hne
    · by_cases hj : j = b + 1
      · subst hj
        refine ⟨⟨hok, ⟨?_, fun e => ?_, fun e => ?_⟩, ?_, fun hkd hnx => ?_⟩, .inl hpar⟩
        · rw [hx, a3]; unfold prevc; rw [hpar, Nat.add_sub_cancel, hl]
        · rw [hpar, Int.toNat_natCast]
          rw [hx, a3] at e
          exact f1 e
        · rw [hx, a3] at e ⊢
          exact f2 e
        · rw [hpar, Int.toNat_natCast, hx, a5]; exact hrk
        · rw [hnext] at hnx ⊢
          by_cases hne : ks.length = 0
          · rw [if_pos hne] at hnx; omega
          · rw [if_neg hne]
            obtain ⟨k2, ks2, rfl⟩ : ∃ k2 ks2, ks = k2 :: ks2 := by
              cases ks with
              | nil => exact absurd rfl hne
              | cons a l => exact ⟨a, l, rfl⟩
            obtain ⟨u1, u2, u3⟩ := lays_head' k2 ks2 _ _ _ _ hs2
            refine ⟨by omega, fun hk2 => ?_⟩
            rw [Int.toNat_natCast] at hk2
            refine ha.1 k2 (by simp) ⟨a6.1 (by rw [← hx]; exact hkd), u3 hk2⟩
      · by_cases hj2 : j < b + 1 + nsz k
        · have := c3 j (by omega) hj2
          exact ⟨this.1, .inr this.2⟩
        · have := d5 j (by omega) (by omega)
          refine ⟨this.1, ?_⟩
          rcases this.2 with e | e
          · exact .inl e
          · right; omega
    · by_cases hj2 : j < b + 1 + nsz k
      · obtain ⟨u1, u2, u3⟩ := c4 j j1 hj2
        refine ⟨u1, u2.more (by omega) fun i i1 i2 => ?_, ?_⟩
        · rcases (d5 i (by omega) (by omega)).2 with e | e <;> omega
        · rw [hrow, List.length_cons] at u3; rw [hh]; omega
      · obtain ⟨u1, u2, u3⟩ := d6 j (by omega) (by omega)
        exact ⟨u1, u2, by rw [hh]; omega⟩
end
theorem zo3 {p : zad} (hn : p.Name ≠ bs []) (hg : goodP p) : linkedP (lay p 0 (-1) (-1) (-1)) ∧ (hgt p ≤ 256 → ¬ deepP (lay p 0 (-1) (-1) (-1))) ∧
    (∀ j, 0 < j → j < nsz p → kidP (lay p 0 (-1) (-1) (-1)) j) ∧ (∀ j, j < nsz p → factP (lay p 0 (-1) (-1) (-1)) j) := by
  obtain ⟨ns, hns⟩ : ∃ ns, ns = lay p 0 (-1) (-1) (-1) := ⟨_, rfl⟩
  have hlen : ns.length = nsz p := by rw [hns, zl3]
  have hseg : segP ns 0 (lay p 0 (-1) (-1) (-1)) := fun j x hx => by
    rw [← hns] at hx
    have hlt := (List.getElem?_eq_some_iff.1 hx).1
    rw [Nat.zero_add]
    refine ⟨hlt, ?_⟩
    have := zkk ns hlt
    rw [hx] at this
    exact (Option.some.inj this).symm
  obtain ⟨x, r, a1, a2, a3, a4, a5, a6, a7⟩ := zpn p 0 (-1) (-1) (-1)
  obtain ⟨_, hx⟩ := hseg 0 x (by rw [a1]; rfl)
  rw [Nat.add_zero] at hx
  have hk : (nd ns 0).Kind = 1 := by rw [hx]; exact a7.2 hn
  have hb : good ns 0 := hk
  obtain ⟨c1, c2, c3, c4⟩ := lay_claim p 0 _ _ _ hg hseg hb
  rw [← hns]
  have hr0 : (row ns 0).length = 1 := rfl
  refine ⟨⟨hk, by rw [hx, a2], by rw [hx, a3], by rw [hx, a4], (c4 0 (Nat.le_refl _) (by have := zo0 p; omega)).1.1, fun j j1 j2 => ⟨(c4 j (by omega) (by omega)).1.1, (c3 j j1 (by omega)).1.1, (c3 j j1 (by omega)).1.2.1⟩, fun j j1 => ?_⟩, fun hh => ?_, fun j j1 j2 => (c3 j j1 (by omega)).1, fun j j1 => (c4 j (by omega) (by omega)).1⟩
  · have := (c4 j (by omega) (by omega)).2.1
    rw [Nat.zero_add] at this
    unfold endP
    rw [hlen]; exact this
  · rintro ⟨j, j1, j2⟩
    have := (c4 j (by omega) (by omega)).2.2
    omega
end
end Go.Proofs.Ytklcdfnhdljkjaa
namespace Go.Proofs.Ytklcdfnhdljkjaa
set_option linter.unusedVariables false
set_option linter.unusedSimpArgs false
open Go.RowKit Go.Sl
variable {n : Nat}
def oI (o : List Nat) : List Int := o.map fun i : Nat => (i : Int)
instance memD (x : ByteArray) (l : List ByteArray) : Decidable (x ∈ l) := decidable_of_iff ((l.any fun y => decide (x = y)) = true) (by simp)
def nmA (A : List za2) (i : Nat) : ByteArray := (A[i]?.map (·.name)).getD (bs [])
def rn (A : List za2) (o : List Nat) : List ByteArray := o.map (nmA A)
theorem zif (o : List Nat) : (oI o).length = o.length := by simp [oI]
theorem zoi (o : List Nat) (j : Nat) : (oI o)[j]? = o[j]?.map fun i : Nat => (i : Int) := by simp [oI]
theorem zde {A : List za2} {H : List Nat} {i : Nat} (h : i ∉ H) : focM A H (i : Int) = A[i]? := by
  unfold focM
  rw [show H.contains ((i : Int).toNat) = false from by simpa using h, cond_false, zb1]
theorem idx_l2 (l : List ByteArray) (x : ByteArray) (hl : l.length ≤ 1000000) : ∀ (d j k : Nat), j + d = l.length → d + 1 ≤ k → ∃ r, zb3 l x k (j : Int) = some r ∧ (0 ≤ r ↔ x ∈ l.drop j)
  | 0, j, k, hj, hk => by
    obtain ⟨k, rfl⟩ : ∃ i, k = i + 1 := ⟨k - 1, by omega⟩
    rw [zb3, dF (by omega)]
    refine ⟨-1, rfl, ?_⟩
    rw [List.drop_eq_nil_of_le (by omega)]; simp
  | d + 1, j, k, hj, hk => by
    obtain ⟨k, rfl⟩ : ∃ i, k = i + 1 := ⟨k - 1, by omega⟩
    have hdr : l.drop j = l[j] :: l.drop (j + 1) := List.drop_eq_getElem_cons (by omega)
    rw [zb3, dT (by omega), zb1, List.getElem?_eq_getElem (by omega), Option.bind_some, hdr]
    by_cases h : x = l[j]
    · rw [dT h]
      exact ⟨_, rfl, iff_of_true (by omega) (List.mem_cons.2 (.inl h))⟩
    · rw [dF h, zb5 (by omega)]
      obtain ⟨r, e1, e2⟩ := idx_l2 l x hl d (j + 1) k (by omega) (by omega)
      exact ⟨r, e1, by rw [e2, List.mem_cons, or_iff_right h]⟩
theorem in_eq (x : ByteArray) (l : List ByteArray) (hl : l.length ≤ 100) (hn : 200 ≤ n) : zjr n x l = some (decide (x ∈ l)) := by
  unfold zjr zd8 ze3
  obtain ⟨r, e1, e2⟩ := idx_l2 l x (by omega) l.length 0 n (by omega) (by omega)
  rw [show (0 : Int) = ((0 : Nat) : Int) from rfl, e1, Option.bind_some, Option.bind_some]
  congr 1
  rw [List.drop_zero] at e2
  exact decide_eq_decide.2 e2
theorem zns (x : ByteArray) (hn : 200 ≤ n) : zh2 n x = some (decide (x ∈ voids)) := by
  unfold zh2
  rw [in_eq x _ (by simp) hn, Option.bind_some]; rfl
def blocks : List ByteArray := [(bs [100, 105, 118]), (bs [112]), (bs [117, 108]), (bs [108, 105]), (bs [104, 49]), (bs [116, 97, 98, 108, 101])]
def marks : List ByteArray := [(bs [97]), (bs [98]), (bs [101, 109]), (bs [105]), (bs [117])]
theorem block_eq (x : ByteArray) (hn : 200 ≤ n) : zkg n x = some (decide (x ∈ blocks)) := by
  unfold zkg
  rw [in_eq x _ (by simp) hn, Option.bind_some]; rfl
theorem marked_eq (x : ByteArray) (hn : 200 ≤ n) : ziu n x = some (decide (x ∈ marks)) := by
  unfold ziu
  rw [in_eq x _ (by simp) hn, Option.bind_some]; rfl
section
variable {A : List za2} {o : List Nat} {c : Int} {d : Bool}
theorem rn_at {j i : Nat} (h : o[j]? = some i) : (rn A o)[j]? = some (nmA A i) := by simp [rn, h]
theorem zi8 {i : Nat} {x : za2} (h : A[i]? = some x) : nmA A i = x.name := by simp [nmA, h]
theorem last_l2 (b : Nat) (nm : ByteArray) (ho : ∀ i ∈ o, i < A.length) (hl : o.length ≤ 1000000) : ∀ (j k : Nat), j ≤ o.length → j + 1 ≤ k →
    ∃ r, zcd A ⟨oI o, c, d⟩ (b : Int) nm k ((j : Int) - 1) = some r ∧ ((r = -1 ∧ ∀ i, b < i → i < j → (rn A o)[i]? ≠ some nm) ∨ ∃ m : Nat, r = m ∧ b < m ∧ m < j ∧ (rn A o)[m]? = some nm ∧ ∀ i, m < i → i < j → (rn A o)[i]? ≠ some nm)
  | 0, k, hj, hk => by
    obtain ⟨k, rfl⟩ : ∃ i, k = i + 1 := ⟨k - 1, by omega⟩
    rw [zcd, dF (by omega)]
    exact ⟨-1, rfl, .inl ⟨rfl, fun i _ h => by omega⟩⟩
  | j + 1, k, hj, hk => by
    obtain ⟨k, rfl⟩ : ∃ i, k = i + 1 := ⟨k - 1, by omega⟩
    rw [zcd, show (((j + 1 : Nat) : Int) - 1) = (j : Int) by omega]
    by_cases hb : b < j
    · have hg : o[j]? = some o[j] := List.getElem?_eq_getElem (by omega)
      have hlt := ho o[j] (List.getElem_mem ..)
      have hA : A[o[j]]? = some A[o[j]] := List.getElem?_eq_getElem hlt
      rw [dT (by omega), zb1, zoi, hg, Option.map_some, Option.bind_some, zde (by simp), hA, Option.bind_some]
      have hr := rn_at (A := A) hg
      rw [zi8 hA] at hr
      by_cases h : A[o[j]].name = nm
      · rw [dT h]
        rw [h] at hr
        exact ⟨j, rfl, .inr ⟨j, rfl, hb, by omega, hr, fun i h1 h2 => by omega⟩⟩
      · rw [dF h, zi4 (by omega)]
        obtain ⟨r, e1, e2⟩ := last_l2 b nm ho hl j k (by omega) (by omega)
        have hne : (rn A o)[j]? ≠ some nm := by rw [hr]; simpa using h
        refine ⟨r, e1, ?_⟩
        rcases e2 with ⟨e2, e3⟩ | ⟨m, e2, e3, e4, e5, e6⟩
        · refine .inl ⟨e2, fun i h1 h2 => ?_⟩
          by_cases q : i = j
          · subst q; exact hne
          · exact e3 i h1 (by omega)
        · refine .inr ⟨m, e2, e3, by omega, e5, fun i h1 h2 => ?_⟩
          by_cases q : i = j
          · subst q; exact hne
          · exact e6 i h1 (by omega)
    · rw [dF (by omega)]
      exact ⟨-1, rfl, .inl ⟨rfl, fun i h1 h2 => by omega⟩⟩
theorem last_eq (b : Nat) (nm : ByteArray) (ho : ∀ i ∈ o, i < A.length) (h0 : o ≠ []) (hl : o.length ≤ 1000000) (hn : 1000001 ≤ n) :
    ∃ r, ze8 n ⟨oI o, c, d⟩ (b : Int) nm A = some r ∧ ((r = -1 ∧ ∀ i, b < i → (rn A o)[i]? ≠ some nm) ∨ ∃ m : Nat, r = m ∧ b < m ∧ m < o.length ∧ (rn A o)[m]? = some nm ∧ ∀ i, m < i → (rn A o)[i]? ≠ some nm) := by
  unfold ze8
  simp only [zif]
  have hp : 0 < o.length := List.length_pos_iff.2 h0
  rw [zi4 (by omega)]
  obtain ⟨r, e1, e2⟩ := last_l2 (c := c) (d := d) b nm ho hl o.length n (Nat.le_refl _) (by omega)
  have hlen : (rn A o).length = o.length := by simp [rn]
  refine ⟨r, e1, ?_⟩
  rcases e2 with ⟨e2, e3⟩ | ⟨m, e2, e3, e4, e5, e6⟩
  · refine .inl ⟨e2, fun i h1 h2 => e3 i h1 ?_ h2⟩
    rw [← hlen]; exact (List.getElem?_eq_some_iff.1 h2).1
  · refine .inr ⟨m, e2, e3, e4, e5, fun i h1 h2 => e6 i h1 ?_ h2⟩
    rw [← hlen]; exact (List.getElem?_eq_some_iff.1 h2).1
theorem bar_l2 (l : List ByteArray) (ho : ∀ i ∈ o, i < A.length) (hl : o.length ≤ 1000000) (hll : l.length ≤ 100) (hn : 200 ≤ n) : ∀ (j k : Nat), j ≤ o.length → j + 1 ≤ k →
    ∃ m : Nat, zcm n A ⟨oI o, c, d⟩ l k ((j : Int) - 1) = some (m : Int) ∧ (m < j ∨ m = 0) ∧ (m = 0 ∨ ∃ x ∈ l, (rn A o)[m]? = some x) ∧ ∀ i x, m < i → i < j → (rn A o)[i]? = some x → x ∉ l
  | 0, k, hj, hk => by
    obtain ⟨k, rfl⟩ : ∃ i, k = i + 1 := ⟨k - 1, by omega⟩
    rw [zcm, dF (by omega)]
    exact ⟨0, rfl, .inr rfl, .inl rfl, fun i x _ h => by omega⟩
  | j + 1, k, hj, hk => by
    obtain ⟨k, rfl⟩ : ∃ i, k = i + 1 := ⟨k - 1, by omega⟩
    rw [zcm, show (((j + 1 : Nat) : Int) - 1) = (j : Int) by omega]
    by_cases hb : 0 < j
    · have hg : o[j]? = some o[j] := List.getElem?_eq_getElem (by omega)
      have hlt := ho o[j] (List.getElem_mem ..)
      have hA : A[o[j]]? = some A[o[j]] := List.getElem?_eq_getElem hlt
      rw [dT (by omega), zb1, zoi, hg, Option.map_some, Option.bind_some, zde (by simp), hA, Option.bind_some, in_eq _ _ hll hn, Option.bind_some]
      have hr := rn_at (A := A) hg
      rw [zi8 hA] at hr
      by_cases h : A[o[j]].name ∈ l
      · rw [dT h]
        exact ⟨j, rfl, .inl (by omega), .inr ⟨_, h, hr⟩, fun i x h1 h2 => by omega⟩
      · rw [dF h, zi4 (by omega)]
        obtain ⟨m, e1, e2, e4, e3⟩ := bar_l2 l ho hl hll hn j k (by omega) (by omega)
        refine ⟨m, e1, by omega, e4, fun i x h1 h2 hx => ?_⟩
        by_cases q : i = j
        · subst q
          rw [hr] at hx
          cases hx; exact h
        · exact e3 i x h1 (by omega) hx
    · rw [dF (by omega)]
      exact ⟨0, rfl, .inr rfl, .inl rfl, fun i x h1 h2 => by omega⟩
theorem bar_eq (l : List ByteArray) (ho : ∀ i ∈ o, i < A.length) (h0 : o ≠ []) (hl : o.length ≤ 1000000) (hll : l.length ≤ 100) (hn : 1000001 ≤ n) :
    ∃ m : Nat, zct n ⟨oI o, c, d⟩ l A = some (m : Int) ∧ m < o.length ∧ (m = 0 ∨ ∃ x ∈ l, (rn A o)[m]? = some x) ∧ ∀ i x, m < i → (rn A o)[i]? = some x → x ∉ l := by
  unfold zct
  simp only [zif]
  have hp : 0 < o.length := List.length_pos_iff.2 h0
  rw [zi4 (by omega)]
  obtain ⟨m, e1, e2, e4, e3⟩ := bar_l2 (n := n) (c := c) (d := d) l ho hl hll (by omega) o.length n (Nat.le_refl _) (by omega)
  have hlen : (rn A o).length = o.length := by simp [rn]
  refine ⟨m, e1, by omega, e4, fun i x h1 h2 => e3 i x h1 ?_ h2⟩
  rw [← hlen]; exact (List.getElem?_eq_some_iff.1 h2).1
theorem zhm {i : Nat} (h : o.getLast? = some i) (hl : o.length ≤ 1000000) : zbr n ⟨oI o, c, d⟩ A = some ((i : Int), ⟨oI o, c, d⟩) := by
  unfold zbr
  simp only [zif]
  have hp : 0 < o.length := List.length_pos_iff.2 (by intro e; subst e; cases h)
  rw [zi4 (by omega), show ((o.length : Int) - 1) = ((o.length - 1 : Nat) : Int) by omega, zb1, zoi]
  rw [List.getLast?_eq_getElem?] at h
  rw [h]; rfl
theorem oI_take (m : Nat) : oI (o.take m) = (oI o).take m := by simp [oI, List.map_take]
theorem zry {m : Nat} (hm : m ≤ o.length) : zdm n ⟨oI o, c, d⟩ (m : Int) = some ⟨oI (o.take m), c, d⟩ := by
  unfold zdm cutM
  simp only [zif]
  rw [show (decide ((0 : Int) ≤ 0) && decide ((0 : Int) ≤ (m : Int)) && decide ((m : Int) ≤ ((o.length : Nat) : Int))) = true from by simp; omega, cond_true, oI_take]
  simp
def Sep (a s : ByteArray) (l : List ByteArray) : Prop := ∀ i j : Nat, i < j → l[i]? = some a → l[j]? = some a → ∃ k : Nat, i < k ∧ k < j ∧ l[k]? = some s
def Free (a s : ByteArray) (l : List ByteArray) : Prop := ∀ i : Nat, l[i]? = some a → ∃ k : Nat, i < k ∧ l[k]? = some s
theorem Sep.take {a s : ByteArray} {l : List ByteArray} (h : Sep a s l) (m : Nat) : Sep a s (l.take m) := fun i j hij hi hj => by
  rw [List.getElem?_take] at hi hj
  split at hi
  · split at hj
    · obtain ⟨k, h1, h2, h3⟩ := h i j hij hi hj
      exact ⟨k, h1, h2, by rw [List.getElem?_take, if_pos (by omega)]; exact h3⟩
    · cases hj
  · cases hi
theorem Sep.snoc {a s x : ByteArray} {l : List ByteArray} (h : Sep a s l) (hx : x = a → Free a s l) : Sep a s (l ++ [x]) := fun i j hij hi hj => by
  have hj1 : j < (l ++ [x]).length := (List.getElem?_eq_some_iff.1 hj).1
  rw [List.length_append, List.length_singleton] at hj1
  rw [List.getElem?_append_left (by omega)] at hi
  by_cases q : j < l.length
  · rw [List.getElem?_append_left q] at hj
    obtain ⟨k, h1, h2, h3⟩ := h i j hij hi hj
    exact ⟨k, h1, h2, by rw [List.getElem?_append_left (by omega)]; exact h3⟩
  · have : j = l.length := by omega
    subst this
    simp at hj
    obtain ⟨k, h1, h2⟩ := hx hj i hi
    have := (List.getElem?_eq_some_iff.1 h2).1
    exact ⟨k, h1, this, by rw [List.getElem?_append_left this]; exact h2⟩
theorem Free.last {a s x : ByteArray} {l : List ByteArray} (h : Free a s l) (hx : l.getLast? = some x) : x ≠ a := fun e => by
  subst e
  rw [List.getLast?_eq_getElem?] at hx
  obtain ⟨k, h1, h2⟩ := h _ hx
  have := (List.getElem?_eq_some_iff.1 h2).1
  omega
theorem zrf (m : Nat) : rn A (o.take m) = (rn A o).take m := by simp [rn, List.map_take]
theorem zmr (b : Nat) (a : ByteArray) (ho : ∀ i ∈ o, i < A.length) (h0 : o ≠ []) (hl : o.length ≤ 1000000) (hn : 1000001 ≤ n) (hb : b < o.length) :
    ∃ m : Nat, zb8 n ⟨oI o, c, d⟩ (b : Int) a A = some ⟨oI (o.take m), c, d⟩ ∧ b < m ∧ m ≤ o.length ∧ ((m = o.length ∧ ∀ i, b < i → (rn A o)[i]? ≠ some a) ∨ (rn A o)[m]? = some a) := by
  obtain ⟨r, r1, r2⟩ := last_eq (n := n) (c := c) (d := d) (A := A) b a ho h0 hl hn
  unfold zb8
  rw [r1, Option.bind_some]
  rcases r2 with ⟨rfl, e2⟩ | ⟨m, rfl, e2, e3, e4, e5⟩
  · rw [dF (by omega)]
    exact ⟨o.length, by rw [List.take_length]; rfl, hb, Nat.le_refl _, .inl ⟨rfl, e2⟩⟩
  · rw [dT (by omega), zry (by omega), Option.bind_some]
    exact ⟨m, rfl, e2, by omega, .inr e4⟩
theorem closeB {a s : ByteArray} (hs : Sep a s (rn A o)) (has : a ≠ s) (ho : ∀ i ∈ o, i < A.length) (h0 : o ≠ []) (hl : o.length ≤ 1000000) (hn : 1000001 ≤ n) (hr : (rn A o)[0]? ≠ some a) :
    ∃ b m : Nat, zct n ⟨oI o, c, d⟩ [s] A = some (b : Int) ∧ zb8 n ⟨oI o, c, d⟩ (b : Int) a A = some ⟨oI (o.take m), c, d⟩ ∧ 1 ≤ m ∧ m ≤ o.length ∧ Free a s (rn A (o.take m)) := by
  obtain ⟨b, b1, b2, b4, b3⟩ := bar_eq (n := n) (c := c) (d := d) (A := A) [s] ho h0 hl (by simp) hn
  obtain ⟨m, m1, m2, m3, m4⟩ := zmr (n := n) (c := c) (d := d) (A := A) b a ho h0 hl hn b2
  refine ⟨b, m, b1, m1, by omega, m3, fun i hi => ?_⟩
  rw [zrf] at hi ⊢
  rw [List.getElem?_take] at hi
  split at hi
  · rename_i him
    rcases m4 with ⟨e1, e2⟩ | e
    · have hib : i ≤ b := Decidable.byContradiction fun q => e2 i (by omega) hi
      rcases b4 with rfl | ⟨x, hx, hx2⟩
      · obtain rfl : i = 0 := by omega
        exact absurd hi hr
      · rw [List.mem_singleton] at hx
        subst hx
        refine ⟨b, ?_, by rw [List.getElem?_take, if_pos m2]; exact hx2⟩
        rcases Nat.lt_or_eq_of_le hib with q | q
        · exact q
        · subst q
          rw [hx2] at hi
          cases hi; exact absurd rfl has
    · obtain ⟨k, k1, k2, k3⟩ := hs i m him hi e
      exact ⟨k, k1, by rw [List.getElem?_take, if_pos k2]; exact k3⟩
  · cases hi
end
end Go.Proofs.Ytklcdfnhdljkjaa
namespace Go.Proofs.Ytklcdfnhdljkjaa
set_option linter.unusedVariables false
set_option linter.unusedSimpArgs false
open Go.RowKit Go.Sl
variable {n : Nat}
def nRoot : ByteArray := bs [114, 111, 111, 116]
def attrsG (l : List za9) : Prop := l.length ≤ 64 ∧ ∀ i, attP l i
theorem zmb : attrsG [] := ⟨by simp, fun i a h => by simp at h⟩
def ownN (M : Nat) (x : za2) : Prop := (x.name = bs [] → x.text ≠ bs [] ∧ x.text.size ≤ M ∧ x.kids = [] ∧ x.attrs = []) ∧ (x.name ≠ bs [] → attrsG x.attrs ∧ (x.name ∈ voids → x.kids = []))
def Rel2 (p n : ByteArray) : Prop := Rel p n ∧ (n = nTable → p ≠ nP)
def adjN (A : List za2) (ks : List Int) : Prop := ∀ (j : Nat) (a b : Int), ks[j]? = some a → ks[j + 1]? = some b → ¬ (nmA A a.toNat = bs [] ∧ nmA A b.toNat = bs [])
inductive Dep (A : List za2) : Nat → Nat → Prop
  | root {x : za2} : A[0]? = some x → Dep A 0 1
  | step {i q d : Nat} {x : za2} : A[i]? = some x → x.above = (q : Int) → 0 < i → Dep A q d → Dep A i (d + 1)
theorem Dep.uniq {A : List za2} {i d e : Nat} (h : Dep A i d) (g : Dep A i e) : d = e := by
  induction h generalizing e with
  | root _ =>
    cases g with
    | root _ => rfl
    | step _ _ h0 _ => omega
  | step h1 h2 h0 _ ih =>
    cases g with
    | root _ => omega
    | step g1 g2 _ g3 =>
      rw [h1] at g1
      cases g1
      rw [h2] at g2
      have := Int.ofNat.inj g2
      subst this
      rw [ih g3]
structure InvA (M : Nat) (A : List za2) (d : Bool) : Prop where
  root : ∃ r, A[0]? = some r ∧ r.name = nRoot ∧ r.attrs = [] ∧ r.above = -1
  up : ∀ (i : Nat) (x : za2), A[i]? = some x → 0 < i → ∃ (q : Nat) (y : za2), x.above = (q : Int) ∧ q < i ∧ A[q]? = some y ∧ (i : Int) ∈ y.kids ∧ Rel2 y.name x.name ∧ y.name ≠ bs []
  down : ∀ (i : Nat) (x : za2) (k : Int), A[i]? = some x → k ∈ x.kids → ∃ (m : Nat) (y : za2), k = (m : Int) ∧ 0 < m ∧ A[m]? = some y ∧ y.above = (i : Int)
  nodup : ∀ (i : Nat) (x : za2), A[i]? = some x → x.kids.Nodup
  own : ∀ (i : Nat) (x : za2), A[i]? = some x → ownN M x
  adj : ∀ (i : Nat) (x : za2), A[i]? = some x → adjN A x.kids
  deep : d = false → ∀ i D, Dep A i D → D ≤ 256
theorem InvA.more {M M' : Nat} {A : List za2} {d : Bool} (h : InvA M A d) (hM : M ≤ M') : InvA M' A d :=
  ⟨h.root, h.up, h.down, h.nodup, fun i x hx => ⟨fun q => by have := (h.own i x hx).1 q; exact ⟨this.1, by omega, this.2.2⟩, (h.own i x hx).2⟩, h.adj, h.deep⟩
structure InvO (A : List za2) (o : List Nat) : Prop where
  head : o[0]? = some 0
  ok : ∀ (j i : Nat), o[j]? = some i → ∃ x, A[i]? = some x ∧ x.name ≠ bs [] ∧ x.name ∉ voids ∧ (0 < j → 0 < i ∧ ∃ j' q : Nat, j' < j ∧ x.above = (q : Int) ∧ o[j']? = some q)
  sp : Sep nP nTd (rn A o)
  st : Sep nTr nTable (rn A o)
  sd : Sep nTd nTr (rn A o)
  len : o.length ≤ A.length
theorem InvO.take {A : List za2} {o : List Nat} (h : InvO A o) {m : Nat} (hm : 1 ≤ m) : InvO A (o.take m) := by
  refine ⟨by rw [List.getElem?_take, if_pos (by omega)]; exact h.head, fun j i hj => ?_, by rw [zrf]; exact h.sp.take m, by rw [zrf]; exact h.st.take m, by rw [zrf]; exact h.sd.take m, ?_⟩
  · rw [List.getElem?_take] at hj
    split at hj
    · obtain ⟨x, h1, h2, h3, h4⟩ := h.ok j i hj
      refine ⟨x, h1, h2, h3, fun h0 => ?_⟩
      obtain ⟨g0, j', q, g1, g2, g3⟩ := h4 h0
      exact ⟨g0, j', q, g1, g2, by rw [List.getElem?_take, if_pos (by omega)]; exact g3⟩
    · cases hj
  · have := h.len
    rw [List.length_take]; omega
theorem InvO.mem {A : List za2} {o : List Nat} (h : InvO A o) : ∀ i ∈ o, i < A.length := fun i hi => by
  obtain ⟨j, hj⟩ := List.getElem?_of_mem hi
  obtain ⟨x, h1, _⟩ := h.ok j i hj
  exact (List.getElem?_eq_some_iff.1 h1).1
theorem InvO.ne {A : List za2} {o : List Nat} (h : InvO A o) : o ≠ [] := fun e => by have := h.head; rw [e] at this; cases this
theorem InvO.zero {M : Nat} {A : List za2} {d : Bool} {o : List Nat} (h : InvO A o) (hA : InvA M A d) : (rn A o)[0]? = some nRoot := by
  obtain ⟨r, h1, h2, _⟩ := hA.root
  rw [rn_at h.head, zi8 h1, h2]
def ext (A A' : List za2) : Prop := A.length ≤ A'.length ∧ ∀ (i : Nat) (x : za2), A[i]? = some x → ∃ x', A'[i]? = some x' ∧ x'.name = x.name ∧ x'.above = x.above ∧ x'.attrs = x.attrs
theorem ext.refl (A : List za2) : ext A A := ⟨Nat.le_refl _, fun _ x h => ⟨x, h, rfl, rfl, rfl⟩⟩
theorem ext.trans {A B C : List za2} (h : ext A B) (g : ext B C) : ext A C := ⟨Nat.le_trans h.1 g.1, fun i x hx => by
  obtain ⟨y, h1, h2, h3, h4⟩ := h.2 i x hx
  obtain ⟨z, g1, g2, g3, g4⟩ := g.2 i y h1
  exact ⟨z, g1, g2.trans h2, g3.trans h3, g4.trans h4⟩⟩
theorem ext.nm {A A' : List za2} (h : ext A A') {i : Nat} (hi : i < A.length) : nmA A' i = nmA A i := by
  obtain ⟨x', h1, h2, _⟩ := h.2 i A[i] (List.getElem?_eq_getElem hi)
  rw [zi8 h1, zi8 (List.getElem?_eq_getElem hi), h2]
theorem ext.rn {A A' : List za2} (h : ext A A') {o : List Nat} (ho : ∀ i ∈ o, i < A.length) : rn A' o = rn A o := List.map_congr_left fun i hi => h.nm (ho i hi)
theorem ext.open {A A' : List za2} (h : ext A A') {o : List Nat} (g : InvO A o) : InvO A' o := by
  have e := h.rn g.mem
  refine ⟨g.head, fun j i hj => ?_, e ▸ g.sp, e ▸ g.st, e ▸ g.sd, Nat.le_trans g.len h.1⟩
  obtain ⟨x, h1, h2, h3, h4⟩ := g.ok j i hj
  obtain ⟨x', g1, g2, g3, _⟩ := h.2 i x h1
  exact ⟨x', g1, by rw [g2]; exact h2, by rw [g2]; exact h3, by rw [g3]; exact h4⟩
theorem Dep.ext {A A' : List za2} (h : ext A A') {i d : Nat} (g : Dep A i d) : Dep A' i d := by
  induction g with
  | root h1 =>
    obtain ⟨x', g1, _⟩ := h.2 _ _ h1
    exact .root g1
  | step h1 h2 h0 _ ih =>
    obtain ⟨x', g1, _, g3, _⟩ := h.2 _ _ h1
    exact .step g1 (g3.trans h2) h0 ih
theorem Dep.of {M : Nat} {A : List za2} {d : Bool} (h : InvA M A d) : ∀ (m i : Nat), i ≤ m → i < A.length → ∃ D, Dep A i D ∧ D ≤ i + 1
  | 0, i, hi, hl => by
    obtain rfl : i = 0 := by omega
    obtain ⟨r, h1, _⟩ := h.root
    exact ⟨1, .root h1, by omega⟩
  | m + 1, i, hi, hl => by
    by_cases h0 : i = 0
    · subst h0
      obtain ⟨r, h1, _⟩ := h.root
      exact ⟨1, .root h1, by omega⟩
    · have hx : A[i]? = some A[i] := List.getElem?_eq_getElem hl
      obtain ⟨q, y, h1, h2, h3, _⟩ := h.up i _ hx (by omega)
      obtain ⟨D, g1, g2⟩ := Dep.of h m q (by omega) (by omega)
      exact ⟨D + 1, .step hx h1 (by omega) g1, by omega⟩
theorem pigeon : ∀ (N : Nat) (l : List Int), l.Nodup → (∀ k ∈ l, ∃ m : Nat, k = (m : Int) ∧ m < N) → l.length ≤ N
  | 0, l, _, h => by
    cases l with
    | nil => simp
    | cons a l => obtain ⟨m, _, h2⟩ := h a (by simp); omega
  | N + 1, l, hd, h => by
    by_cases hm : (N : Int) ∈ l
    · have h1 := List.length_erase_of_mem hm
      have h2 := pigeon N (l.erase (N : Int)) (hd.erase _) fun k hk => by
        rw [hd.mem_erase_iff] at hk
        obtain ⟨m, e1, e2⟩ := h k hk.2
        exact ⟨m, e1, by have := hk.1; omega⟩
      omega
    · have := pigeon N l hd fun k hk => by
        obtain ⟨m, e1, e2⟩ := h k hk
        refine ⟨m, e1, ?_⟩
        have : m ≠ N := fun q => by subst q; rw [e1] at hk; exact hm hk
        omega
      omega
theorem InvA.kidsLen {M : Nat} {A : List za2} {d : Bool} (h : InvA M A d) {i : Nat} {x : za2} (hx : A[i]? = some x) : x.kids.length ≤ A.length :=
  pigeon _ _ (h.nodup i x hx) fun k hk => by
    obtain ⟨m, y, e1, _, e2, _⟩ := h.down i x k hx hk
    exact ⟨m, e1, (List.getElem?_eq_some_iff.1 e2).1⟩
section
variable {A : List za2} {q : Nat} {y x : za2} {ks : List Int}
def att (A : List za2) (q : Nat) (y : za2) (ks : List Int) (x : za2) : List za2 := A.set q { y with kids := ks } ++ [{ x with above := (q : Int) }]
theorem zjz : (att A q y ks x).length = A.length + 1 := by simp [att]
theorem zkc : (att A q y ks x)[A.length]? = some { x with above := (q : Int) } := by simp [att]
theorem att_q (h : A[q]? = some y) : (att A q y ks x)[q]? = some { y with kids := ks } := by
  have hq := (List.getElem?_eq_some_iff.1 h).1
  unfold att
  rw [List.getElem?_append_left (by simpa using hq), List.getElem?_set_self hq]
theorem zn3 {i : Nat} (hi : i < A.length) (hq : i ≠ q) : (att A q y ks x)[i]? = A[i]? := by
  unfold att
  rw [List.getElem?_append_left (by simpa using hi), List.getElem?_set_ne (by omega)]
theorem zm1 (h : A[q]? = some y) {i : Nat} {z : za2} (hz : (att A q y ks x)[i]? = some z) : (i = A.length ∧ z = { x with above := (q : Int) }) ∨ (i = q ∧ z = { y with kids := ks }) ∨ (i ≠ q ∧ i < A.length ∧ A[i]? = some z) := by
  have hl := (List.getElem?_eq_some_iff.1 hz).1
  rw [zjz] at hl
  by_cases h1 : i = A.length
  · subst h1; rw [zkc] at hz; exact .inl ⟨rfl, (Option.some.inj hz).symm⟩
  · by_cases h2 : i = q
    · subst h2; rw [att_q h] at hz; exact .inr (.inl ⟨rfl, (Option.some.inj hz).symm⟩)
    · rw [zn3 (by omega) h2] at hz
      exact .inr (.inr ⟨h2, by omega, hz⟩)
theorem zk0 (h : A[q]? = some y) : ext A (att A q y ks x) := ⟨by rw [zjz]; omega, fun i z hz => by
  by_cases h2 : i = q
  · subst h2
    rw [h] at hz
    cases hz
    exact ⟨_, att_q h, rfl, rfl, rfl⟩
  · exact ⟨z, by rw [zn3 (List.getElem?_eq_some_iff.1 hz).1 h2]; exact hz, rfl, rfl, rfl⟩⟩
theorem att_nm (h : A[q]? = some y) {i : Nat} (hi : i < A.length) : nmA (att A q y ks x) i = nmA A i := (zk0 h).nm hi
theorem attach {M : Nat} {d d' : Bool} {l1 l2 : List Int} (h : InvA M A d) (hq : A[q]? = some y) (hk : y.kids = l1 ++ l2) (hy : y.name ≠ bs []) (hv : y.name ∉ voids) (hr : Rel2 y.name x.name) (hx : ownN M x) (hxk : x.kids = [])
    (hadj : x.name = bs [] → (∀ k, l1.getLast? = some k → nmA A k.toNat ≠ bs []) ∧ (∀ k, l2.head? = some k → nmA A k.toNat ≠ bs []))
    (hd : d' = false → d = false ∧ ∀ D, Dep A q D → D + 1 ≤ 256) : InvA M (att A q y (l1 ++ (A.length : Int) :: l2) x) d' := by
  have hql := (List.getElem?_eq_some_iff.1 hq).1
  have he : ext A (att A q y (l1 ++ (A.length : Int) :: l2) x) := zk0 hq
  have kin : ∀ k ∈ y.kids, ∃ m : Nat, k = (m : Int) ∧ m < A.length := fun k hk' => by
    obtain ⟨m, z, e1, _, e2, _⟩ := h.down q y k hq hk'
    exact ⟨m, e1, (List.getElem?_eq_some_iff.1 e2).1⟩
  refine ⟨?_, fun i z hz h0 => ?_, fun i z k hz hkk => ?_, fun i z hz => ?_, fun i z hz => ?_, fun i z hz => ?_, fun hdd i D hD => ?_⟩
  · obtain ⟨r, h1, h2, h3, h4⟩ := h.root
    by_cases h0 : 0 = q
    · subst h0
      rw [hq] at h1
      cases h1
      exact ⟨_, att_q hq, h2, h3, h4⟩
    · exact ⟨r, by rw [zn3 (by omega) h0]; exact h1, h2, h3, h4⟩
  · rcases zm1 hq hz with ⟨rfl, rfl⟩ | ⟨rfl, rfl⟩ | ⟨h1, h2, h3⟩
    · exact ⟨q, _, rfl, hql, att_q hq, by simp, hr, hy⟩
    · obtain ⟨q0, y0, g1, g2, g3, g4, g5, g6⟩ := h.up i y hq h0
      exact ⟨q0, y0, g1, g2, by rw [zn3 (by omega) (by omega)]; exact g3, g4, g5, g6⟩
    · obtain ⟨q0, y0, g1, g2, g3, g4, g5, g6⟩ := h.up i z h3 h0
      by_cases hq0 : q0 = q
      · subst hq0
        rw [hq] at g3
        cases g3
        refine ⟨q0, _, g1, g2, att_q hq, ?_, g5, g6⟩
        rw [hk] at g4
        simp only [List.mem_append, List.mem_cons] at g4 ⊢
        rcases g4 with g4 | g4
        · exact .inl g4
        · exact .inr (.inr g4)
      · exact ⟨q0, y0, g1, g2, by rw [zn3 (by omega) hq0]; exact g3, g4, g5, g6⟩
  · rcases zm1 hq hz with ⟨rfl, rfl⟩ | ⟨rfl, rfl⟩ | ⟨h1, h2, h3⟩
    · simp only [hxk] at hkk; cases hkk
    · simp only [List.mem_append, List.mem_cons] at hkk
      by_cases hkn : k = (A.length : Int)
      · exact ⟨A.length, _, hkn, by omega, zkc, rfl⟩
      · have hm : k ∈ y.kids := by
          rw [hk, List.mem_append]
          rcases hkk with g | g | g
          · exact .inl g
          · exact absurd g hkn
          · exact .inr g
        obtain ⟨m, z, e1, e0, e2, e3⟩ := h.down i y k hq hm
        obtain ⟨q0, _, g1, g2, _⟩ := h.up m z e2 e0
        rw [e3] at g1
        have := Int.ofNat.inj g1
        exact ⟨m, z, e1, e0, by rw [zn3 (List.getElem?_eq_some_iff.1 e2).1 (by omega)]; exact e2, e3⟩
    · obtain ⟨m, w, e1, e0, e2, e3⟩ := h.down i z k h3 hkk
      by_cases hm : m = q
      · subst hm
        rw [hq] at e2
        cases e2
        exact ⟨m, _, e1, e0, att_q hq, e3⟩
      · exact ⟨m, w, e1, e0, by rw [zn3 (List.getElem?_eq_some_iff.1 e2).1 hm]; exact e2, e3⟩
  · rcases zm1 hq hz with ⟨rfl, rfl⟩ | ⟨rfl, rfl⟩ | ⟨h1, h2, h3⟩
    · simp only [hxk]; exact List.nodup_nil
    · have hn := h.nodup i y hq
      rw [hk] at hn
      refine (List.Perm.nodup_iff List.perm_middle).2 (List.nodup_cons.2 ⟨fun hm => ?_, hn⟩)
      rw [← hk] at hm
      obtain ⟨m, e1, e2⟩ := kin _ hm
      omega
    · exact h.nodup i z h3
  · rcases zm1 hq hz with ⟨rfl, rfl⟩ | ⟨rfl, rfl⟩ | ⟨h1, h2, h3⟩
    · exact hx
    · have := h.own i y hq
      exact ⟨fun q => absurd q hy, fun q => ⟨(this.2 q).1, fun g => absurd g hv⟩⟩
    · exact h.own i z h3
  · have old : ∀ (ks : List Int), (∀ k ∈ ks, ∃ m : Nat, k = (m : Int) ∧ m < A.length) → adjN A ks → adjN (att A q y (l1 ++ (A.length : Int) :: l2) x) ks := fun ks hin ha j a b ja jb => by
      obtain ⟨m, rfl, hm⟩ := hin a (List.mem_of_getElem? ja)
      obtain ⟨m', rfl, hm'⟩ := hin b (List.mem_of_getElem? jb)
      have := ha j _ _ ja jb
      rw [Int.toNat_natCast, Int.toNat_natCast] at this ⊢
      rw [att_nm hq hm, att_nm hq hm']
      exact this
    rcases zm1 hq hz with ⟨rfl, rfl⟩ | ⟨rfl, rfl⟩ | ⟨h1, h2, h3⟩
    · simp only [hxk]
      intro j a b ja; simp at ja
    · have ha := h.adj i y hq
      rw [hk] at ha kin
      intro j a b ja jb
      have hnew : nmA (att A i y (l1 ++ (A.length : Int) :: l2) x) A.length = x.name := by rw [zi8 zkc]
      simp only at ja jb
      by_cases c1 : j + 1 < l1.length
      · rw [List.getElem?_append_left (by omega)] at ja
        rw [List.getElem?_append_left c1] at jb
        exact old _ kin ha j a b (by rw [List.getElem?_append_left (by omega)]; exact ja) (by rw [List.getElem?_append_left c1]; exact jb)
      · by_cases c2 : j + 1 = l1.length
        · rw [List.getElem?_append_left (by omega)] at ja
          rw [List.getElem?_append_right (by omega), show j + 1 - l1.length = 0 by omega, List.getElem?_cons_zero] at jb
          cases jb
          have hja : l1.getLast? = some a := by rw [List.getLast?_eq_getElem?, show l1.length - 1 = j by omega]; exact ja
          obtain ⟨m, rfl, hm⟩ := kin a (List.mem_append_left _ (List.mem_of_getElem? ja))
          rw [Int.toNat_natCast, Int.toNat_natCast, hnew, att_nm hq hm]
          rintro ⟨u1, u2⟩
          exact (hadj u2).1 _ hja (by rw [Int.toNat_natCast]; exact u1)
        · by_cases c3 : j = l1.length
          · rw [List.getElem?_append_right (by omega), show j - l1.length = 0 by omega, List.getElem?_cons_zero] at ja
            rw [List.getElem?_append_right (by omega), show j + 1 - l1.length = 0 + 1 by omega, List.getElem?_cons_succ] at jb
            cases ja
            have hjb : l2.head? = some b := by rw [List.head?_eq_getElem?]; exact jb
            obtain ⟨m, rfl, hm⟩ := kin b (List.mem_append_right _ (List.mem_of_getElem? jb))
            rw [Int.toNat_natCast, Int.toNat_natCast, hnew, att_nm hq hm]
            rintro ⟨u1, u2⟩
            exact (hadj u1).2 _ hjb (by rw [Int.toNat_natCast]; exact u2)
          · obtain ⟨t, rfl⟩ : ∃ t, j = l1.length + 1 + t := ⟨j - l1.length - 1, by omega⟩
            rw [List.getElem?_append_right (by omega), show l1.length + 1 + t - l1.length = t + 1 by omega, List.getElem?_cons_succ] at ja
            rw [List.getElem?_append_right (by omega), show l1.length + 1 + t + 1 - l1.length = t + 1 + 1 by omega, List.getElem?_cons_succ] at jb
            exact old _ kin ha (l1.length + t) a b (by rw [List.getElem?_append_right (by omega), show l1.length + t - l1.length = t by omega]; exact ja) (by rw [List.getElem?_append_right (by omega), show l1.length + t + 1 - l1.length = t + 1 by omega]; exact jb)
    · refine old _ (fun k hk' => ?_) (h.adj i z h3)
      obtain ⟨m, w, e1, _, e2, _⟩ := h.down i z k h3 hk'
      exact ⟨m, e1, (List.getElem?_eq_some_iff.1 e2).1⟩
  · obtain ⟨hd1, hd2⟩ := hd hdd
    have hl : i < A.length + 1 := by
      cases hD with
      | root g => rw [← zjz (A := A) (q := q) (y := y) (ks := l1 ++ (A.length : Int) :: l2) (x := x)]; exact (List.getElem?_eq_some_iff.1 g).1
      | step g _ _ _ => rw [← zjz (A := A) (q := q) (y := y) (ks := l1 ++ (A.length : Int) :: l2) (x := x)]; exact (List.getElem?_eq_some_iff.1 g).1
    by_cases hi : i < A.length
    · obtain ⟨D', g1, _⟩ := Dep.of h i i (Nat.le_refl _) hi
      rw [hD.uniq (g1.ext he)]
      exact h.deep hd1 i D' g1
    · obtain rfl : i = A.length := by omega
      obtain ⟨D', g1, _⟩ := Dep.of h q q (Nat.le_refl _) hql
      rw [hD.uniq (.step zkc rfl (by omega) (g1.ext he))]
      exact hd2 D' g1
end
end Go.Proofs.Ytklcdfnhdljkjaa
namespace Go.Proofs.Ytklcdfnhdljkjaa
set_option linter.unusedVariables false
set_option linter.unusedSimpArgs false
open Go.RowKit Go.Sl
variable {n : Nat}
section
variable {M : Nat} {A : List za2} {d : Bool} {o : List Nat} {c : Int}
theorem put_l4_eq {A' : List za2} {i D : Nat} (hD : Dep A' i D) (hr : ∃ r, A'[0]? = some r ∧ r.above = -1) (y6 : List Int) (y11 : Int) (y12 : Bool) : ∀ (k e : Nat), D + 1 ≤ k → e + D ≤ 1000000 → zc5 y6 y11 y12 A' k (e : Int) (i : Int) = zf5 y6 y11 y12 A' ((e + D : Nat) : Int) := by
  induction hD with
  | root h1 =>
    intro k e hk he
    obtain ⟨k, rfl⟩ : ∃ j, k = j + 2 := ⟨k - 2, by omega⟩
    obtain ⟨r, r1, r2⟩ := hr
    rw [zc5, show (!(decide (((0 : Nat) : Int) = -1))) = true from rfl, cond_true, zde (by simp), r1, Option.bind_some, zb5 (by omega), r2, zc5]
    rfl
  | step h1 h2 h0 _ ih =>
    intro k e hk he
    obtain ⟨k, rfl⟩ : ∃ j, k = j + 1 := ⟨k - 1, by omega⟩
    rename_i i q D x _
    rw [zc5, show (!(decide ((i : Int) = -1))) = true from by rw [decide_eq_false (by omega)]; rfl, cond_true, zde (by simp), h1, Option.bind_some, zb5 (by omega), h2, ih k (e + 1) (by omega) (by omega)]
    congr 1; omega
theorem put_k1_eq {A' : List za2} {i D : Nat} (hD : Dep A' i D) (hr : ∃ r, A'[0]? = some r ∧ r.above = -1) (hDs : D ≤ 100000) (y6 : List Int) (m : Nat) (y12 : Bool) (hm : m ≤ 1000000) (hn : 1000000 ≤ n) :
    ze7 n (i : Int) y6 (m : Int) y12 A' = some (⟨y6, ((m + 1 : Nat) : Int), y12 || decide (256 < (D : Int))⟩, A') := by
  unfold ze7
  rw [show (0 : Int) = ((0 : Nat) : Int) from rfl, put_l4_eq hD hr y6 m y12 n 0 (by omega) (by omega), Nat.zero_add]
  unfold zf5 zf4
  rw [zb5 (by omega)]
  cases y12 <;> simp
theorem put_deep {q : Nat} {y x : za2} {ks : List Int} (hA : InvA M A d) (hq : A[q]? = some y) : ∃ D, Dep (att A q y ks x) A.length D ∧ D ≤ A.length + 1 ∧ ((d || decide (256 < (D : Int))) = false → d = false ∧ ∀ D', Dep A q D' → D' + 1 ≤ 256) := by
  have hql := (List.getElem?_eq_some_iff.1 hq).1
  obtain ⟨D, g1, g2⟩ := Dep.of hA q q (Nat.le_refl _) hql
  refine ⟨D + 1, .step zkc rfl (by omega) (g1.ext (zk0 hq)), by omega, fun h => ?_⟩
  rw [Bool.or_eq_false_iff, decide_eq_false_iff_not] at h
  exact ⟨h.1, fun D' hD' => by rw [hD'.uniq g1]; omega⟩
theorem att_root {q : Nat} {y x : za2} {ks : List Int} (hA : InvA M A d) (hq : A[q]? = some y) : ∃ r, (att A q y ks x)[0]? = some r ∧ r.above = -1 := by
  obtain ⟨r, h1, _, _, h4⟩ := hA.root
  obtain ⟨r', g1, _, g3, _⟩ := (zk0 (ks := ks) (x := x) hq).2 0 r h1
  exact ⟨r', g1, g3.trans h4⟩
theorem zrm {q : Nat} {y x : za2} (hA : InvA M A d) (ho : o.getLast? = some q) (hl : o.length ≤ 1000000) (hq : A[q]? = some y) (hlen : A.length ≤ 20000) (hn : 1000000 ≤ n) :
    ∃ D : Nat, zd7 n ⟨oI o, (A.length : Int), d⟩ (A.length : Int) (-1) (A ++ [x]) = some (⟨oI o, ((A.length + 1 : Nat) : Int), d || decide (256 < (D : Int))⟩, att A q y (y.kids ++ [(A.length : Int)]) x) ∧
      ((d || decide (256 < (D : Int))) = false → d = false ∧ ∀ D', Dep A q D' → D' + 1 ≤ 256) ∧ Dep (att A q y (y.kids ++ [(A.length : Int)]) x) A.length D := by
  have hql := (List.getElem?_eq_some_iff.1 hq).1
  have hkl := hA.kidsLen hq
  obtain ⟨D, d1, d2, d3⟩ := put_deep (x := x) (ks := y.kids ++ [(A.length : Int)]) hA hq
  refine ⟨D, ?_, d3, d1⟩
  unfold zd7
  rw [show decide ((-1 : Int) = -1) = true from rfl, cond_true, zhm ho hl, Option.bind_some, zde (by simp)]
  simp only
  rw [zde (by simp; omega), List.getElem?_append_right (Nat.le_refl _), Nat.sub_self, List.getElem?_cons_zero, Option.bind_some, List.getElem?_append_left hql, hq, Option.bind_some]
  rw [zew (by simp; omega), Option.bind_some]
  have e : setM (setM (A ++ [x]) (q : Int) ({name := y.name, text := y.text, attrs := y.attrs, above := y.above, kids := y.kids ++ [(A.length : Int)]} : za2)) (A.length : Int) ({name := x.name, text := x.text, attrs := x.attrs, above := (q : Int), kids := x.kids} : za2) = att A q y (y.kids ++ [(A.length : Int)]) x := by
    unfold setM att
    rw [Int.toNat_natCast, Int.toNat_natCast, List.set_append_left _ _ hql, List.set_append_right _ _ (by simp)]
    simp
  rw [e, put_k1_eq d1 (att_root hA hq) (by omega) _ _ _ (by omega) hn]
theorem node_idx (xs : List Int) (t : Int) (hl : xs.length ≤ 1000000) : ∀ (l2 l1 : List Int) (k : Nat), l1 ++ l2 = xs → t ∉ l1 → l2.length + 1 ≤ k → t ∈ l2 → ∃ m : Nat, zcx xs t k (l1.length : Int) = some (m : Int) ∧ m < xs.length ∧ xs[m]? = some t ∧ t ∉ xs.take m
  | [], l1, k, he, _, hk, hm => by cases hm
  | a :: l2, l1, k, he, h1, hk, hm => by
    obtain ⟨k, rfl⟩ : ∃ j, k = j + 1 := ⟨k - 1, by omega⟩
    have hlen : xs.length = l1.length + (l2.length + 1) := by rw [← he]; simp
    have ha : xs[l1.length]? = some a := by rw [← he]; simp
    rw [zcx, dT (by omega), zb1, ha, Option.bind_some]
    by_cases h : t = a
    · rw [dT h]
      subst h
      exact ⟨l1.length, rfl, by omega, ha, by rw [← he]; simpa using h1⟩
    · rw [dF h, zb5 (by omega)]
      have := node_idx xs t hl l2 (l1 ++ [a]) k (by simpa using he) (by simp [h1, h]) (by simp at hk; omega) (by simpa [h] using hm)
      simpa using this
theorem idxP_eq {xs : List Int} {t : Int} (hl : xs.length ≤ 1000000) (hm : t ∈ xs) : ∃ m : Nat, idxP xs t = some (m : Int) ∧ m < xs.length ∧ xs[m]? = some t := by
  unfold idxP zhd
  obtain ⟨m, e1, e2, e3, _⟩ := node_idx xs t hl xs [] (xs.length + 1) rfl (by simp) (Nat.le_refl _) hm
  exact ⟨m, e1, e2, e3⟩
theorem put_ahead {t q : Nat} {tx y x : za2} (hA : InvA M A d) (ht : A[t]? = some tx) (h0 : 0 < t) (hta : tx.above = (q : Int)) (hq : A[q]? = some y) (hlen : A.length ≤ 20000) (hn : 1000000 ≤ n) :
    ∃ (D m : Nat), zd7 n ⟨oI o, (A.length : Int), d⟩ (A.length : Int) (t : Int) (A ++ [x]) = some (⟨oI o, ((A.length + 1 : Nat) : Int), d || decide (256 < (D : Int))⟩, att A q y (y.kids.take m ++ (A.length : Int) :: y.kids.drop m) x) ∧ y.kids[m]? = some (t : Int) ∧ idxP y.kids (t : Int) = some (m : Int) ∧ m < y.kids.length ∧
      ((d || decide (256 < (D : Int))) = false → d = false ∧ ∀ D', Dep A q D' → D' + 1 ≤ 256) := by
  have hql := (List.getElem?_eq_some_iff.1 hq).1
  have htl := (List.getElem?_eq_some_iff.1 ht).1
  have hkl := hA.kidsLen hq
  obtain ⟨q', y', g1, g2, g3, g4, _⟩ := hA.up t tx ht h0
  rw [hta] at g1
  obtain rfl : q = q' := Int.ofNat.inj g1
  rw [hq] at g3
  cases g3
  obtain ⟨m, m1, m2, m3⟩ := idxP_eq (t := (t : Int)) (by omega : y.kids.length ≤ 1000000) g4
  obtain ⟨D, d1, d2, d3⟩ := put_deep (x := x) (ks := y.kids.take m ++ (A.length : Int) :: y.kids.drop m) hA hq
  refine ⟨D, m, ?_, m3, m1, m2, d3⟩
  unfold zd7
  rw [dF (by omega), zde (by simp), List.getElem?_append_left htl, ht, Option.bind_some, zde (by simp; omega), List.getElem?_append_right (Nat.le_refl _), Nat.sub_self, List.getElem?_cons_zero, Option.bind_some, hta, zde (by simp; omega), List.getElem?_append_left hql, hq, Option.bind_some, m1, Option.bind_some]
  unfold insM
  rw [dT (by omega), Option.bind_some, Int.toNat_natCast]
  have e : setM (setM (setM (A ++ [x]) (q : Int) ({name := y.name, text := y.text, attrs := y.attrs, above := y.above, kids := y.kids.take m ++ (A.length : Int) :: y.kids.drop m} : za2)) (A.length : Int) ({name := x.name, text := x.text, attrs := x.attrs, above := (q : Int), kids := x.kids} : za2)) (t : Int) tx = att A q y (y.kids.take m ++ (A.length : Int) :: y.kids.drop m) x := by
    unfold setM att
    rw [Int.toNat_natCast, Int.toNat_natCast, Int.toNat_natCast, List.set_append_left _ _ hql, List.set_append_right _ _ (by simp)]
    rw [List.set_append_left _ _ (by simpa using htl)]
    congr 1
    · refine List.ext_getElem? fun i => ?_
      by_cases hi : i = t
      · subst hi
        rw [List.getElem?_set_self (by simpa using htl), List.getElem?_set_ne (by omega), ht]
      · rw [List.getElem?_set_ne (by omega)]
    · simp
  rw [e, put_k1_eq d1 (att_root hA hq) (by omega) _ _ _ (by omega) hn]
theorem ahead_eq (hO : InvO A o) (hl : o.length ≤ 1000000) (hn : 1000001 ≤ n) :
    (zdn n ⟨oI o, c, d⟩ A = some (-1, ⟨oI o, c, d⟩) ∧ ∀ i, 0 < i → (rn A o)[i]? ≠ some nTable) ∨
    (∃ (m t q : Nat) (tx : za2), zdn n ⟨oI o, c, d⟩ A = some ((t : Int), ⟨oI o, c, d⟩) ∧ 0 < m ∧ o[m]? = some t ∧ 0 < t ∧ A[t]? = some tx ∧ tx.name = nTable ∧ tx.above = (q : Int) ∧ q ∈ o) := by
  unfold zdn
  obtain ⟨r, r1, r2⟩ := last_eq (n := n) (c := c) (d := d) (A := A) 0 nTable hO.mem hO.ne hl hn
  rw [show ((0 : Int)) = ((0 : Nat) : Int) from rfl, show (bs [116, 97, 98, 108, 101]) = nTable from rfl, r1, Option.bind_some]
  rcases r2 with ⟨rfl, e2⟩ | ⟨m, rfl, e2, e3, e4, e5⟩
  · left
    exact ⟨by rw [dT (by omega)], e2⟩
  · right
    have hg : o[m]? = some o[m] := List.getElem?_eq_getElem e3
    obtain ⟨x, h1, h2, h3, h4⟩ := hO.ok m _ hg
    obtain ⟨h5, j', q, h6, h7, h8⟩ := h4 e2
    rw [rn_at hg, zi8 h1] at e4
    exact ⟨m, o[m], q, x, by rw [dF (by omega), zb1, zoi, hg]; rfl, e2, hg, h5, h1, Option.some.inj e4, h7, List.mem_of_getElem? h8⟩
def fits (l : List ByteArray) (nm : ByteArray) : Prop := (nm = nP → Free nP nTd l) ∧ (nm = nTr → Free nTr nTable l) ∧ (nm = nTd → Free nTd nTr l ∧ l.getLast? ≠ some nTable) ∧ (nm = nTable → l.getLast? ≠ some nP)
theorem zfp : nP ≠ nTd ∧ nTr ≠ nTable ∧ nTd ≠ nTr ∧ nTable ≠ nTd ∧ nTr ≠ nTd ∧ nP ≠ nTr ∧ nP ≠ nTable ∧ nTable ≠ bs [] ∧ nTr ≠ bs [] ∧ nTd ≠ bs [] ∧ nP ≠ bs [] ∧ nRoot ≠ nP ∧ nRoot ≠ nTr ∧ nRoot ≠ nTd ∧ nRoot ≠ nTable := by
  refine ⟨?_, ?_, ?_, ?_, ?_, ?_, ?_, ?_, ?_, ?_, ?_, ?_, ?_, ?_, ?_⟩ <;> simp [nP, nTd, nTr, nTable, nRoot]
theorem voids_not : nP ∉ voids ∧ nTr ∉ voids ∧ nTd ∉ voids ∧ nTable ∉ voids ∧ bs [] ∉ voids := by
  refine ⟨?_, ?_, ?_, ?_, ?_⟩ <;> simp [nP, nTd, nTr, nTable, voids]
theorem push_open {A' : List za2} (hO : InvO A o) (he : ext A A') {nm : ByteArray} {x : za2} {q : Nat} (hx : A'[A.length]? = some x) (hxn : x.name = nm) (hnm : nm ≠ bs []) (hv : nm ∉ voids) (hxa : x.above = (q : Int)) (hqo : q ∈ o) (hf : fits (rn A o) nm) : InvO A' (o ++ [A.length]) := by
  have hO' := he.open hO
  have hrn := he.rn hO.mem
  have e : rn A' (o ++ [A.length]) = rn A o ++ [nm] := by
    rw [← hrn]; simp [rn, zi8 hx, hxn]
  obtain ⟨j', hj'⟩ := List.getElem?_of_mem hqo
  have hl' := (List.getElem?_eq_some_iff.1 hj').1
  have hxl := (List.getElem?_eq_some_iff.1 hx).1
  refine ⟨by rw [List.getElem?_append_left (by omega)]; exact hO.head, fun j i hj => ?_, ?_, ?_, ?_, ?_⟩
  · have hjl := (List.getElem?_eq_some_iff.1 hj).1
    rw [List.length_append, List.length_singleton] at hjl
    by_cases hjo : j < o.length
    · rw [List.getElem?_append_left hjo] at hj
      obtain ⟨z, h1, h2, h3, h4⟩ := hO'.ok j i hj
      refine ⟨z, h1, h2, h3, fun h0 => ?_⟩
      obtain ⟨g0, j2, q2, g1, g2, g3⟩ := h4 h0
      exact ⟨g0, j2, q2, g1, g2, by rw [List.getElem?_append_left (by omega)]; exact g3⟩
    · obtain rfl : j = o.length := by omega
      simp at hj
      subst hj
      have := hO.len
      exact ⟨x, hx, by rw [hxn]; exact hnm, by rw [hxn]; exact hv, fun h0 => ⟨by omega, j', q, hl', hxa, by rw [List.getElem?_append_left hl']; exact hj'⟩⟩
  · rw [e]; exact hO.sp.snoc fun h => hf.1 h
  · rw [e]; exact hO.st.snoc fun h => hf.2.1 h
  · rw [e]; exact hO.sd.snoc fun h => (hf.2.2.1 h).1
  · have := hO.len
    rw [List.length_append, List.length_singleton]; omega
def elemOf (nm : ByteArray) (at_ : List za9) : za2 := {name := nm, text := bs [], attrs := at_, above := -1, kids := []}
theorem elemOf_own {nm : ByteArray} {at_ : List za9} (hnm : nm ≠ bs []) (ha : attrsG at_) : ownN M (elemOf nm at_) := ⟨fun h => absurd h hnm, fun _ => ⟨ha, fun _ => rfl⟩⟩
theorem znn {q : Nat} {y : za2} {nm : ByteArray} {at_ : List za9} {t : Int} (hA : InvA M A d) (hO : InvO A o) (hnm : nm ≠ bs []) (ha : attrsG at_) (hf : fits (rn A o) nm) (hlen : A.length ≤ 20000) (hn : 1000001 ≤ n)
    (hq : A[q]? = some y) (hqo : q ∈ o) (hrel : Rel2 y.name nm)
    (ht : (t = -1 ∧ o.getLast? = some q) ∨ ∃ (t' : Nat) (tx : za2), t = (t' : Int) ∧ 0 < t' ∧ A[t']? = some tx ∧ tx.above = (q : Int)) :
    ∃ o' A' d', zbj n A nm at_ (oI o) (A.length : Int) d t = some (⟨oI o', (A'.length : Int), d'⟩, A') ∧ InvA M A' d' ∧ InvO A' o' ∧ A'.length = A.length + 1 ∧ ext A A' ∧
      (o' = if nm ∈ voids then o else o ++ [A.length]) ∧ nmA A' A.length = nm := by
  have hol : o.length ≤ 1000000 := by have := hO.len; omega
  obtain ⟨j, hj⟩ := List.getElem?_of_mem hqo
  obtain ⟨y', i1, i2, i3, i4⟩ := hO.ok j q hj
  rw [hq] at i1
  cases i1
  have key : ∃ (l1 l2 : List Int) (d' : Bool), zd7 n ⟨oI o, (A.length : Int), d⟩ (A.length : Int) t (A ++ [elemOf nm at_]) = some (⟨oI o, ((A.length + 1 : Nat) : Int), d'⟩, att A q y (l1 ++ (A.length : Int) :: l2) (elemOf nm at_)) ∧ y.kids = l1 ++ l2 ∧ (d' = false → d = false ∧ ∀ D', Dep A q D' → D' + 1 ≤ 256) := by
    rcases ht with ⟨rfl, h2⟩ | ⟨t', tx, rfl, h2, h3, h4⟩
    · obtain ⟨D, e1, e2⟩ := zrm (x := elemOf nm at_) hA h2 hol hq hlen (by omega : 1000000 ≤ n)
      exact ⟨y.kids, [], _, e1, by simp, e2.1⟩
    · obtain ⟨D, m, e1, e2, e3, e4, e5⟩ := put_ahead (o := o) (x := elemOf nm at_) hA h3 h2 h4 hq hlen (by omega : 1000000 ≤ n)
      exact ⟨_, _, _, e1, (List.take_append_drop _ _).symm, e5⟩
  obtain ⟨l1, l2, d', k1, k2, k3⟩ := key
  have hA' : InvA M (att A q y (l1 ++ (A.length : Int) :: l2) (elemOf nm at_)) d' := attach hA hq k2 i2 i3 hrel (elemOf_own hnm ha) rfl (fun h => absurd h hnm) k3
  have he : ext A (att A q y (l1 ++ (A.length : Int) :: l2) (elemOf nm at_)) := zk0 hq
  have hre : reachBytes = 140737488351232 := rfl
  unfold zbj zi6
  rw [zew (by have := ha.1; simp; omega), Option.bind_some, List.nil_append]
  rw [show (A ++ [({name := nm, text := (bs []), attrs := at_, above := (-1 : Int), kids := ([] : List Int)} : za2)]) = A ++ [elemOf nm at_] from rfl, k1, Option.bind_some, zns _ (by omega), Option.bind_some]
  have hlA : (att A q y (l1 ++ (A.length : Int) :: l2) (elemOf nm at_)).length = A.length + 1 := zjz
  by_cases hv : nm ∈ voids
  · rw [decide_eq_true hv, Bool.not_true, cond_false]
    unfold zc6
    exact ⟨o, _, d', by rw [hlA], hA', he.open hO, hlA, he, by rw [if_pos hv], zi8 zkc⟩
  · rw [decide_eq_false hv, Bool.not_false, cond_true, zew (by simp [zif]; omega), Option.bind_some]
    unfold zc6
    refine ⟨o ++ [A.length], _, d', by rw [hlA]; simp [oI], hA', push_open hO he zkc rfl hnm hv rfl hqo hf, hlA, he, by rw [if_neg hv], zi8 zkc⟩
theorem fits_rel {nm pn : ByteArray} {l : List ByteArray} (hf : fits l nm) (hp : l.getLast? = some pn) (hx : pn = nTable → nm = nTr) : Rel2 pn nm := by
  refine ⟨⟨fun h => ?_, fun h _ => hx h⟩, fun h1 h2 => hf.2.2.2 h1 (by rw [hp, h2])⟩
  obtain ⟨h1, h2⟩ := h
  rcases h2 with h2 | h2 | h2
  · exact (hf.2.1 h2).last hp (by rw [← h1, h2])
  · exact (hf.2.2.1 h2).1.last hp (by rw [← h1, h2])
  · exact (hf.1 h2).last hp (by rw [← h1, h2])
theorem ahead_rel {nm pn : ByteArray} (ht : Rel2 pn nTable) (h1 : nm ≠ nTr) (h2 : nm ≠ nTd) : Rel2 pn nm := by
  have hpt : pn ≠ nTable := fun h => zfp.2.1 (ht.1.2 h zfp.2.2.2.2.2.2.2.1).symm
  have hpp : pn ≠ nP := ht.2 rfl
  refine ⟨⟨fun h => ?_, fun h _ => absurd h hpt⟩, fun _ => hpp⟩
  obtain ⟨e1, e2⟩ := h
  rcases e2 with e2 | e2 | e2
  · exact h1 e2
  · exact h2 e2
  · exact hpp (by rw [← e1, e2])
theorem zo7 {nm : ByteArray} {at_ : List za9} (hA : InvA M A d) (hO : InvO A o) (hnm : nm ≠ bs []) (ha : attrsG at_) (hf : fits (rn A o) nm) (hlen : A.length ≤ 20000) (hn : 1000001 ≤ n) :
    ∃ o' A' d', zce n ⟨oI o, (A.length : Int), d⟩ nm at_ A = some (⟨oI o', (A'.length : Int), d'⟩, A') ∧ InvA M A' d' ∧ InvO A' o' ∧ A'.length = A.length + 1 ∧ ext A A' ∧
      (o' = if nm ∈ voids then o else o ++ [A.length]) ∧ nmA A' A.length = nm := by
  have hol : o.length ≤ 1000000 := by have := hO.len; omega
  obtain ⟨q, hq⟩ : ∃ q, o.getLast? = some q := ⟨_, List.getLast?_eq_some_getLast hO.ne⟩
  have hqm := List.mem_of_getLast? hq
  have hqlt : q < A.length := hO.mem q hqm
  have hqA : A[q]? = some A[q] := List.getElem?_eq_getElem hqlt
  have hlast : (rn A o).getLast? = some A[q].name := by
    unfold rn
    rw [List.getLast?_map, hq, Option.map_some, zi8 hqA]
  have hne0 : ¬ ((A[q]).name = nTable ∧ ∀ i, 0 < i → (rn A o)[i]? ≠ some nTable) := fun ⟨h1, h2⟩ => by
    rw [h1, List.getLast?_eq_getElem?] at hlast
    by_cases h0 : 0 < (rn A o).length - 1
    · exact h2 _ h0 hlast
    · rw [show (rn A o).length - 1 = 0 by omega, hO.zero hA] at hlast
      exact zfp.2.2.2.2.2.2.2.2.2.2.2.2.2.2 (Option.some.inj hlast)
  -- into the current one
  have cur : (A[q].name = nTable → nm = nTr) → ∃ o' A' d', zbj n A nm at_ (oI o) (A.length : Int) d (-1) = some (⟨oI o', (A'.length : Int), d'⟩, A') ∧ InvA M A' d' ∧ InvO A' o' ∧ A'.length = A.length + 1 ∧ ext A A' ∧ (o' = if nm ∈ voids then o else o ++ [A.length]) ∧ nmA A' A.length = nm :=
    fun h => znn hA hO hnm ha hf hlen hn hqA hqm (fits_rel hf hlast h) (.inl ⟨rfl, hq⟩)
  -- ahead of the table
  have ahd : nm ≠ nTr → nm ≠ nTd → ∃ o' A' d', zaz n A nm at_ ((q : Int), ⟨oI o, (A.length : Int), d⟩) true = some (⟨oI o', (A'.length : Int), d'⟩, A') ∧ InvA M A' d' ∧ InvO A' o' ∧ A'.length = A.length + 1 ∧ ext A A' ∧ (o' = if nm ∈ voids then o else o ++ [A.length]) ∧ nmA A' A.length = nm := fun h1 h2 => by
    unfold zaz
    rw [cond_true]
    rcases ahead_eq (n := n) (c := (A.length : Int)) (d := d) hO hol hn with ⟨e1, e2⟩ | ⟨m, t, q', tx, e1, e2, e3, e4, e5, e6, e7, e8⟩
    · rw [e1, Option.bind_some]
      exact cur fun h => absurd ⟨h, e2⟩ hne0
    · rw [e1, Option.bind_some]
      obtain ⟨q2, y, g1, g2, g3, g4, g5, g6⟩ := hA.up t tx e5 e4
      rw [e7] at g1
      obtain rfl : q' = q2 := Int.ofNat.inj g1
      rw [e6] at g5
      exact znn hA hO hnm ha hf hlen hn g3 e8 (ahead_rel g5 h1 h2) (.inr ⟨t, tx, rfl, e4, e5, e7⟩)
  have nahd : (A[q].name = nTable → nm = nTr) → ∃ o' A' d', zaz n A nm at_ ((q : Int), ⟨oI o, (A.length : Int), d⟩) false = some (⟨oI o', (A'.length : Int), d'⟩, A') ∧ InvA M A' d' ∧ InvO A' o' ∧ A'.length = A.length + 1 ∧ ext A A' ∧ (o' = if nm ∈ voids then o else o ++ [A.length]) ∧ nmA A' A.length = nm := fun h => by
    unfold zaz
    rw [cond_false]
    exact cur h
  unfold zce
  rw [zhm hq hol, Option.bind_some, zde (by simp), hqA, Option.bind_some]
  have hnt : ∀ {α : Type} (a b : α), A[q].name = nTr → (bif (decide (A[q].name = (bs [116, 114]))) then a else b) = a := fun a b h => dT h
  have hnf : ∀ {α : Type} (a b : α), A[q].name ≠ nTr → (bif (decide (A[q].name = (bs [116, 114]))) then a else b) = b := fun a b h => dF h
  by_cases hT : A[q].name = nTable
  · rw [dT (show A[q].name = (bs [116, 97, 98, 108, 101]) from hT), in_eq _ _ (by simp) (by omega), Option.bind_some]
    have hmem : nm ∈ [(bs [116, 114]), (bs [116, 100])] ↔ nm = nTr ∨ nm = nTd := by simp [nTr, nTd]
    by_cases hm : nm ∈ [(bs [116, 114]), (bs [116, 100])]
    · rw [decide_eq_true hm, Bool.not_true, cond_false, hnf _ _ (by rw [hT]; exact fun h => zfp.2.1 h.symm)]
      have hnt2 : nm = nTr := by
        rcases hmem.1 hm with h | h
        · exact h
        · exact absurd (by rw [hlast, hT]) (hf.2.2.1 h).2
      exact nahd fun _ => hnt2
    · rw [decide_eq_false hm, Bool.not_false, cond_true]
      rw [hmem, not_or] at hm
      exact ahd hm.1 hm.2
  · rw [dF (show ¬ A[q].name = (bs [116, 97, 98, 108, 101]) from hT)]
    by_cases hR : A[q].name = nTr
    · rw [hnt _ _ hR]
      by_cases hd2 : nm = nTd
      · rw [show decide (nm ≠ (bs [116, 100])) = false from decide_eq_false (fun h => h hd2)]
        exact nahd fun h => absurd h hT
      · rw [show decide (nm ≠ (bs [116, 100])) = true from decide_eq_true hd2]
        refine ahd (fun h => ?_) hd2
        exact (hf.2.1 h).last hlast hR
    · rw [hnf _ _ hR]
      exact nahd fun h => absurd h hT
end
end Go.Proofs.Ytklcdfnhdljkjaa
namespace Go.Proofs.Ytklcdfnhdljkjaa
set_option linter.unusedVariables false
set_option linter.unusedSimpArgs false
open Go.RowKit Go.Sl
variable {n : Nat}
section
variable {M : Nat} {A : List za2} {d : Bool} {o : List Nat} {c : Int}
theorem dec_pos (s : ByteArray) (pos : Nat) (h : pos < s.size) : 1 ≤ (Utf8.decode s pos).2 := by
  by_cases ha : (s[pos]'h).toNat < 128
  · rw [Go.decode_ascii s pos h ha]
    exact Nat.le_refl _
  · exact (Go.decode_high s pos h (by omega)).2
theorem blanks_l2 (s : ByteArray) : ∀ (m p k : Nat), s.size ≤ p + m → m + 1 ≤ k → ∃ b, zey s k p = some b
  | 0, p, k, hp, hk => by
    obtain ⟨k, rfl⟩ : ∃ i, k = i + 1 := ⟨k - 1, by omega⟩
    rw [zey, dF (by omega)]
    exact ⟨true, rfl⟩
  | m + 1, p, k, hp, hk => by
    obtain ⟨k, rfl⟩ : ∃ i, k = i + 1 := ⟨k - 1, by omega⟩
    rw [zey]
    by_cases h : p < s.size
    · rw [dT h]
      have := dec_pos s p h
      cases ((decide (((Utf8.decode s p).1 : Int) ≠ 9)) && ((decide (((Utf8.decode s p).1 : Int) ≠ 10)) && ((decide (((Utf8.decode s p).1 : Int) ≠ 12)) && (decide (((Utf8.decode s p).1 : Int) ≠ 32))))) with
      | true => exact ⟨false, rfl⟩
      | false => exact blanks_l2 s m _ k (by omega) (by omega)
    · rw [dF h]
      exact ⟨true, rfl⟩
theorem blanks_eq (s : ByteArray) (hn : s.size + 1 ≤ n) : ∃ b, zkq n s = some b := blanks_l2 s s.size 0 n (by omega) hn
theorem join_inv {k : Nat} {z : za2} {s : ByteArray} {T : Nat} (hA : InvA M A d) (hk : A[k]? = some z) (hz : z.name = bs []) (hs : s.size ≤ T) :
    InvA (M + T) (A.set k {z with text := z.text ++ s}) d ∧ ext A (A.set k {z with text := z.text ++ s}) := by
  have hkl := (List.getElem?_eq_some_iff.1 hk).1
  have hself : (A.set k {z with text := z.text ++ s})[k]? = some {z with text := z.text ++ s} := List.getElem?_set_self hkl
  have hoth : ∀ {i : Nat}, i ≠ k → (A.set k {z with text := z.text ++ s})[i]? = A[i]? := fun h => List.getElem?_set_ne (by omega)
  -- each node there has one here that differs in its text alone
  have back : ∀ {i : Nat} {w : za2}, (A.set k {z with text := z.text ++ s})[i]? = some w → ∃ v, A[i]? = some v ∧ w.name = v.name ∧ w.above = v.above ∧ w.kids = v.kids ∧ w.attrs = v.attrs ∧ ((i = k ∧ v = z ∧ w.text = z.text ++ s) ∨ w = v) := fun {i w} h => by
    by_cases hi : i = k
    · subst hi
      rw [hself] at h
      cases h
      exact ⟨z, hk, rfl, rfl, rfl, rfl, .inl ⟨rfl, rfl, rfl⟩⟩
    · rw [hoth hi] at h
      exact ⟨w, h, rfl, rfl, rfl, rfl, .inr rfl⟩
  have fwd : ∀ {i : Nat} {v : za2}, A[i]? = some v → ∃ w, (A.set k {z with text := z.text ++ s})[i]? = some w ∧ w.name = v.name ∧ w.above = v.above ∧ w.kids = v.kids ∧ w.attrs = v.attrs := fun {i v} h => by
    by_cases hi : i = k
    · subst hi
      rw [hk] at h
      cases h
      exact ⟨_, hself, rfl, rfl, rfl, rfl⟩
    · exact ⟨v, by rw [hoth hi]; exact h, rfl, rfl, rfl, rfl⟩
  have he : ext A (A.set k {z with text := z.text ++ s}) := ⟨by simp, fun i x hx => by
    obtain ⟨w, h1, h2, h3, _, h5⟩ := fwd hx
    exact ⟨w, h1, h2, h3, h5⟩⟩
  have he' : ext (A.set k {z with text := z.text ++ s}) A := ⟨by simp, fun i x hx => by
    obtain ⟨v, h1, h2, h3, _, h5, _⟩ := back hx
    exact ⟨v, h1, h2.symm, h3.symm, h5.symm⟩⟩
  refine ⟨⟨?_, fun i w hw h0 => ?_, fun i w q hw hq => ?_, fun i w hw => ?_, fun i w hw => ?_, fun i w hw => ?_, fun hd i D hD => hA.deep hd i D (hD.ext he')⟩, he⟩
  · obtain ⟨r, h1, h2, h3, h4⟩ := hA.root
    obtain ⟨w, g1, g2, g3, _, g5⟩ := fwd h1
    exact ⟨w, g1, g2.trans h2, g5.trans h3, g3.trans h4⟩
  · obtain ⟨v, h1, h2, h3, _⟩ := back hw
    obtain ⟨q, y, g1, g2, g3, g4, g5, g6⟩ := hA.up i v h1 h0
    obtain ⟨y', f1, f2, _, f4, _⟩ := fwd g3
    exact ⟨q, y', h3.trans g1, g2, f1, by rw [f4]; exact g4, by rw [f2, h2]; exact g5, by rw [f2]; exact g6⟩
  · obtain ⟨v, h1, _, _, h4, _⟩ := back hw
    obtain ⟨m, y, g1, g2, g3, g4⟩ := hA.down i v q h1 (by rw [← h4]; exact hq)
    obtain ⟨y', f1, _, f3, _⟩ := fwd g3
    exact ⟨m, y', g1, g2, f1, f3.trans g4⟩
  · obtain ⟨v, h1, _, _, h4, _⟩ := back hw
    rw [h4]; exact hA.nodup i v h1
  · obtain ⟨v, h1, h2, _, h4, h5, h6⟩ := back hw
    have := hA.own i v h1
    rcases h6 with ⟨_, rfl, h8⟩ | rfl
    · obtain ⟨t1, t2, t3⟩ := this.1 hz
      refine ⟨fun _ => ⟨fun e => ?_, by rw [h8, ByteArray.size_append]; omega, h4.trans t3.1, h5.trans t3.2⟩, fun hh => absurd (h2.trans hz) hh⟩
      rw [h8] at e
      have e2 := congrArg ByteArray.size e
      rw [ByteArray.size_append] at e2
      have : v.text.size ≠ 0 := fun q => t1 (by
        apply ByteArray.ext
        apply Array.eq_empty_of_size_eq_zero
        exact q)
      have e3 : (bs []).size = 0 := rfl
      omega
    · exact ⟨fun q => by have := this.1 q; exact ⟨this.1, by omega, this.2.2⟩, this.2⟩
  · obtain ⟨v, h1, _, _, h4, _⟩ := back hw
    rw [h4]
    have ha := hA.adj i v h1
    intro j a b ja jb
    obtain ⟨m, _, rfl, _, e2, _⟩ := hA.down i v a h1 (List.mem_of_getElem? ja)
    obtain ⟨m', _, rfl, _, e2', _⟩ := hA.down i v b h1 (List.mem_of_getElem? jb)
    have := ha j _ _ ja jb
    rw [Int.toNat_natCast, Int.toNat_natCast] at this ⊢
    rw [he.nm (List.getElem?_eq_some_iff.1 e2).1, he.nm (List.getElem?_eq_some_iff.1 e2').1]
    exact this
def textOfN (s : ByteArray) : za2 := {name := bs [], text := s, attrs := [], above := -1, kids := []}
theorem rel_text (p : ByteArray) : Rel2 p (bs []) := by
  refine ⟨⟨fun h => ?_, fun _ h => absurd rfl h⟩, fun h => absurd h.symm zfp.2.2.2.2.2.2.2.1⟩
  rcases h.2 with e | e | e
  · exact zfp.2.2.2.2.2.2.2.2.1 e.symm
  · exact zfp.2.2.2.2.2.2.2.2.2.1 e.symm
  · exact zfp.2.2.2.2.2.2.2.2.2.2.1 e.symm
def CharsR (M T : Nat) (A : List za2) (o : List Nat) (r : Option (za6 × List za2)) : Prop :=
  ∃ A' d', r = some (⟨oI o, (A'.length : Int), d'⟩, A') ∧ InvA (M + T) A' d' ∧ InvO A' o ∧ A'.length ≤ A.length + 1 ∧ ext A A'
theorem zpt {q : Nat} {y : za2} {s : ByteArray} {t z : Int} {T m : Nat} (hA : InvA M A d) (hO : InvO A o) (hs : s ≠ bs []) (hsT : s.size ≤ T) (hMT : M + T ≤ 9000000000000000000) (hlen : A.length ≤ 20000) (hn : 1000001 ≤ n)
    (hq : A[q]? = some y) (hy : y.name ≠ bs []) (hv : y.name ∉ voids) (hm : m ≤ y.kids.length)
    (ht : (t = -1 ∧ o.getLast? = some q ∧ m = y.kids.length) ∨ ∃ (t' : Nat) (tx : za2), t = (t' : Int) ∧ 0 < t' ∧ A[t']? = some tx ∧ tx.name = nTable ∧ tx.above = (q : Int) ∧ idxP y.kids t = some (m : Int)) :
    CharsR M T A o (zcl n A s t (z, ⟨oI o, (A.length : Int), d⟩) y.kids (m : Int)) := by
  have hol : o.length ≤ 1000000 := by have := hO.len; omega
  have hkl := hA.kidsLen hq
  have hown : ownN (M + T) (textOfN s) := ⟨fun _ => ⟨hs, (by show s.size ≤ M + T; omega), rfl, rfl⟩, fun h => absurd rfl h⟩
  -- a new text
  have new : (∀ k, (y.kids.take m).getLast? = some k → nmA A k.toNat ≠ bs []) → CharsR M T A o (zc1 n A s t (z, ⟨oI o, (A.length : Int), d⟩) y.kids (m : Int) false) := fun hprev => by
    unfold zc1
    rw [cond_false, show (A ++ [({name := (bs []), text := s, attrs := ([] : List za9), above := (-1 : Int), kids := ([] : List Int)} : za2)]) = A ++ [textOfN s] from rfl]
    rcases ht with ⟨rfl, h2, h3⟩ | ⟨t', tx, rfl, h2, h3, h4, h5, h6⟩
    · obtain ⟨D, e1, e2⟩ := zrm (x := textOfN s) hA h2 hol hq hlen (by omega : 1000000 ≤ n)
      rw [e1, Option.bind_some]
      refine ⟨_, _, by rw [zjz], ?_, (zk0 hq).open hO, by rw [zjz]; omega, zk0 hq⟩
      refine attach (l2 := []) (hA.more (by omega)) hq (by simp) hy hv (rel_text _) hown rfl (fun _ => ⟨fun k hk => ?_, fun k hk => by cases hk⟩) e2.1
      refine hprev k ?_
      rw [h3, List.take_length]; exact hk
    · obtain ⟨D, m', e1, e2, e3, e4, e5⟩ := put_ahead (o := o) (x := textOfN s) hA h3 h2 h5 hq hlen (by omega : 1000000 ≤ n)
      rw [h6] at e3
      obtain rfl : m = m' := Int.ofNat.inj (Option.some.inj e3)
      rw [e1, Option.bind_some]
      refine ⟨_, _, by rw [zjz], ?_, (zk0 hq).open hO, by rw [zjz]; omega, zk0 hq⟩
      refine attach (hA.more (by omega)) hq (List.take_append_drop _ _).symm hy hv (rel_text _) hown rfl (fun _ => ⟨hprev, fun k hk => ?_⟩) e5
      rw [List.head?_drop, e2] at hk
      cases hk
      rw [Int.toNat_natCast, zi8 h3, h4]
      exact zfp.2.2.2.2.2.2.2.1
  unfold zcl
  by_cases h0 : m = 0
  · subst h0
    rw [dF (by omega)]
    exact new fun k hk => by simp at hk
  · obtain ⟨m, rfl⟩ : ∃ i, m = i + 1 := ⟨m - 1, by omega⟩
    have hk : y.kids[m]? = some y.kids[m] := List.getElem?_eq_getElem (by omega)
    obtain ⟨k, w, k1, k2, k3, k4⟩ := hA.down q y _ hq (List.mem_of_getElem? hk)
    rw [k1] at hk
    have hkl2 := (List.getElem?_eq_some_iff.1 k3).1
    rw [dT (by omega), zi4 (by omega), show (((m + 1 : Nat) : Int) - 1) = (m : Int) by omega, zb1, hk, Option.bind_some, zde (by simp), k3, Option.bind_some]
    by_cases hw : w.name = bs []
    · rw [decide_eq_true hw]
      unfold zc1
      have hsz := ((hA.own k w k3).1 hw).2.1
      rw [cond_true, zi4 (by omega), show (((m + 1 : Nat) : Int) - 1) = (m : Int) by omega, zb1, hk, Option.bind_some, zde (by simp), k3, Option.bind_some]
      unfold addS
      rw [dT (by omega), Option.bind_some, Option.bind_some]
      obtain ⟨j1, j2⟩ := join_inv hA k3 hw hsT
      unfold setM
      rw [Int.toNat_natCast]
      exact ⟨_, _, by simp, j1, j2.open hO, by simp, j2⟩
    · rw [decide_eq_false hw]
      refine new fun k' hk' => ?_
      rw [List.getLast?_take, if_neg (by omega)] at hk'
      simp only [Nat.add_sub_cancel, hk, Option.some_or] at hk'
      cases hk'
      rw [Int.toNat_natCast, zi8 k3]; exact hw
theorem chars_ok {s : ByteArray} {T : Nat} (hA : InvA M A d) (hO : InvO A o) (hs : s ≠ bs []) (hsT : s.size ≤ T) (hMT : M + T ≤ 9000000000000000000) (hlen : A.length ≤ 20000) (hn : 1000001 ≤ n) (hsn : s.size + 1 ≤ n) :
    CharsR M T A o (zby n ⟨oI o, (A.length : Int), d⟩ s A) := by
  have hol : o.length ≤ 1000000 := by have := hO.len; omega
  obtain ⟨q, hq⟩ : ∃ q, o.getLast? = some q := ⟨_, List.getLast?_eq_some_getLast hO.ne⟩
  have hqm := List.mem_of_getLast? hq
  obtain ⟨j, hj⟩ := List.getElem?_of_mem hqm
  obtain ⟨y, y1, y2, y3, _⟩ := hO.ok j q hj
  have cur : CharsR M T A o (zbk n A s (oI o) (A.length : Int) d (-1)) := by
    unfold zbk
    rw [zhm hq hol, Option.bind_some, zde (by simp), y1, Option.bind_some, show (!(decide ((-1 : Int) = -1))) = false from rfl, cond_false]
    exact zpt hA hO hs hsT hMT hlen hn y1 y2 y3 (Nat.le_refl _) (.inl ⟨rfl, hq, rfl⟩)
  have k1 : ∀ {t : Nat} {q' : Nat} {tx : za2}, 0 < t → A[t]? = some tx → tx.name = nTable → tx.above = (q' : Int) → q' ∈ o → CharsR M T A o (zbk n A s (oI o) (A.length : Int) d (t : Int)) := fun {t q' tx} h0 h1 h2 h3 h4 => by
    obtain ⟨j', hj'⟩ := List.getElem?_of_mem h4
    obtain ⟨y', z1, z2, z3, _⟩ := hO.ok j' q' hj'
    obtain ⟨q2, w, g1, g2, g3, g4, _⟩ := hA.up t tx h1 h0
    rw [h3] at g1
    obtain rfl : q' = q2 := Int.ofNat.inj g1
    rw [z1] at g3
    cases g3
    have hkl := hA.kidsLen z1
    obtain ⟨m, m1, m2, m3⟩ := idxP_eq (t := (t : Int)) (by omega : y'.kids.length ≤ 1000000) g4
    unfold zbk
    rw [zhm hq hol, Option.bind_some, zde (by simp), y1, Option.bind_some, show (!(decide ((t : Int) = -1))) = true from by rw [decide_eq_false (by omega)]; rfl, cond_true, zde (by simp), h1, Option.bind_some, h3, zde (by simp), z1, Option.bind_some, m1, Option.bind_some]
    exact zpt hA hO hs hsT hMT hlen hn z1 z2 z3 (by omega) (.inr ⟨t, tx, rfl, h0, h1, h2, h3, m1⟩)
  unfold zby
  rw [zhm hq hol, Option.bind_some, zde (by simp), y1, Option.bind_some, in_eq _ _ (by simp) (by omega), Option.bind_some]
  by_cases hin : y.name ∈ [(bs [116, 97, 98, 108, 101]), (bs [116, 114])]
  · rw [decide_eq_true hin, cond_true]
    rcases ahead_eq (n := n) (c := (A.length : Int)) (d := d) hO hol hn with ⟨e1, e2⟩ | ⟨m, t, q', tx, e1, e2, e3, e4, e5, e6, e7, e8⟩
    · rw [e1, Option.bind_some, show (!(decide ((-1 : Int) = -1))) = false from rfl, cond_false]
      unfold zdb
      rw [cond_false]
      exact cur
    · rw [e1, Option.bind_some, show (!(decide ((t : Int) = -1))) = true from by rw [decide_eq_false (by omega)]; rfl, cond_true]
      obtain ⟨b, hb⟩ := blanks_eq (n := n) s hsn
      rw [hb, Option.bind_some]
      unfold zdb
      cases b with
      | true => exact ⟨A, d, rfl, hA.more (by omega), hO, by omega, ext.refl A⟩
      | false => exact k1 e4 e5 e6 e7 e8
  · rw [decide_eq_false hin, cond_false]
    exact cur
end
end Go.Proofs.Ytklcdfnhdljkjaa
namespace Go.Proofs.Ytklcdfnhdljkjaa
set_option linter.unusedVariables false
set_option linter.unusedSimpArgs false
open Go.RowKit Go.Sl
variable {n : Nat}
section
variable {M : Nat} {A : List za2} {d : Bool} {o : List Nat} {c : Int}
def ElemR (M : Nat) (A : List za2) (add : Nat) (r : Option (za6 × List za2)) : Prop :=
  ∃ o' A' d', r = some (⟨oI o', (A'.length : Int), d'⟩, A') ∧ InvA M A' d' ∧ InvO A' o' ∧ A'.length ≤ A.length + add ∧ ext A A'
theorem cut_take (xs : List Int) {w : Nat} (h : w ≤ xs.length) : cutM xs (0 : Int) (w : Int) = some (xs.take w) := by
  unfold cutM
  rw [show (decide ((0 : Int) ≤ 0) && decide ((0 : Int) ≤ (w : Int)) && decide ((w : Int) ≤ (xs.length : Int))) = true from by simp; omega, cond_true]
  simp
theorem zrw (xs : List Nat) {w : Nat} (h : w ≤ xs.length) : cutM (oI xs) (w : Int) ((oI xs).length : Int) = some (oI (xs.drop w)) := by
  unfold cutM
  rw [show (decide ((0 : Int) ≤ (w : Int)) && decide ((w : Int) ≤ ((oI xs).length : Int)) && decide (((oI xs).length : Int) ≤ ((oI xs).length : Int))) = true from by rw [zif]; simp; omega, cond_true]
  rw [Int.toNat_natCast, Int.toNat_natCast, List.take_length]
  simp [oI, List.map_drop]
theorem li_ne : (bs [108, 105] : ByteArray) ≠ nP ∧ (bs [108, 105] : ByteArray) ≠ nTr ∧ (bs [108, 105] : ByteArray) ≠ nTd ∧ (bs [108, 105] : ByteArray) ≠ nTable := by
  refine ⟨?_, ?_, ?_, ?_⟩ <;> simp [nP, nTd, nTr, nTable]
theorem zqw {l : List ByteArray} {nm : ByteArray} (h1 : nm ≠ nP) (h2 : nm ≠ nTr) (h3 : nm ≠ nTd) (h4 : nm ≠ nTable) : fits l nm := ⟨fun h => absurd h h1, fun h => absurd h h2, fun h => absurd h h3, fun h => absurd h h4⟩
def OpR (M : Nat) (A : List za2) (nm : ByteArray) (r : Option (za6 × List za2)) : Prop :=
  ∃ o' A' d', r = some (⟨oI o', (A'.length : Int), d'⟩, A') ∧ InvA M A' d' ∧ InvO A' o' ∧ A'.length ≤ A.length + 2 ∧ ext A A' ∧ (nm ∉ voids → 2 ≤ o'.length)
theorem zj3 {A0 : List za2} {nm : ByteArray} {at_ : List za9} (hA : InvA M A d) (hO : InvO A o) (hnm : nm ≠ bs []) (ha : attrsG at_) (hf : fits (rn A o) nm) (hlen : A.length ≤ 20000) (hn : 1000001 ≤ n) (hl0 : A.length ≤ A0.length + 1) (he0 : ext A0 A) :
    OpR M A0 nm (zcf n nm at_ (oI o) (A.length : Int) d A) := by
  unfold zcf
  obtain ⟨o', A', d', e1, e2, e3, e4, e5, e6, e7⟩ := zo7 hA hO hnm ha hf hlen hn
  rw [e1, Option.bind_some]
  refine ⟨o', A', d', rfl, e2, e3, by omega, he0.trans e5, fun hv => ?_⟩
  rw [e6, if_neg hv]
  have := List.length_pos_iff.2 hO.ne
  simp; omega
theorem last_rn {q : Nat} {y : za2} (hq : o.getLast? = some q) (hy : A[q]? = some y) : (rn A o).getLast? = some y.name := by
  unfold rn
  rw [List.getLast?_map, hq, Option.map_some, zi8 hy]
theorem zoh {nm : ByteArray} {at_ : List za9} (hA : InvA M A d) (hO : InvO A o) (hnm : nm ≠ bs []) (ha : attrsG at_) (hf : nm ∈ blocks → Free nP nTd (rn A o)) (hlen : A.length ≤ 10000) (hn : 1000001 ≤ n) :
    OpR M A nm (zcg n A nm at_ (oI o) (A.length : Int) d) := by
  have hol : o.length ≤ 1000000 := by have := hO.len; omega
  have hz := hO.zero hA
  obtain ⟨np1, np2, np3, np4, np5, np6, np7, np8, np9, np10, np11, np12, np13, np14, np15⟩ := zfp
  unfold zcg
  by_cases h1 : nm = bs [108, 105]
  · rw [dT h1]
    obtain ⟨b, b1, b2, _, _⟩ := bar_eq (n := n) (c := (A.length : Int)) (d := d) (A := A) [(bs [117, 108]), (bs [116, 100])] hO.mem hO.ne hol (by simp) hn
    obtain ⟨m, m1, m2, m3, _⟩ := zmr (n := n) (c := (A.length : Int)) (d := d) (A := A) b (bs [108, 105]) hO.mem hO.ne hol hn b2
    rw [b1, Option.bind_some, m1, Option.bind_some]
    refine zj3 hA (hO.take (by omega)) hnm ha ?_ (by omega) hn (by omega) (ext.refl A)
    rw [h1]
    exact zqw li_ne.1 li_ne.2.1 li_ne.2.2.1 li_ne.2.2.2
  · rw [dF h1]
    by_cases h2 : nm = nTr
    · rw [dT (show nm = bs [116, 114] from h2)]
      obtain ⟨b, m, b1, m1, m2, m3, m4⟩ := closeB (n := n) (c := (A.length : Int)) (d := d) hO.st np2 hO.mem hO.ne hol hn (by rw [hz]; exact fun e => np13 (Option.some.inj e))
      rw [show [(bs [116, 97, 98, 108, 101])] = [nTable] from rfl, show (bs [116, 114] : ByteArray) = nTr from rfl, b1, Option.bind_some, m1, Option.bind_some]
      refine zj3 hA (hO.take m2) hnm ha ⟨fun e => absurd (h2.symm.trans e) (fun e => np6 e.symm), fun _ => m4, fun e => absurd (h2.symm.trans e) np5, fun e => absurd (h2.symm.trans e) np2⟩ (by omega) hn (by omega) (ext.refl A)
    · rw [dF (show ¬ nm = bs [116, 114] from h2)]
      by_cases h3 : nm = nTd
      · rw [dT (show nm = bs [116, 100] from h3)]
        obtain ⟨b, m, b1, m1, m2, m3, m4⟩ := closeB (n := n) (c := (A.length : Int)) (d := d) hO.sd np3 hO.mem hO.ne hol hn (by rw [hz]; exact fun e => np14 (Option.some.inj e))
        rw [show [(bs [116, 114])] = [nTr] from rfl, show (bs [116, 100] : ByteArray) = nTd from rfl, b1, Option.bind_some, m1, Option.bind_some]
        have hO2 := hO.take m2
        obtain ⟨q, hq⟩ : ∃ q, (o.take m).getLast? = some q := ⟨_, List.getLast?_eq_some_getLast hO2.ne⟩
        obtain ⟨j, hj⟩ := List.getElem?_of_mem (List.mem_of_getLast? hq)
        obtain ⟨y, y1, y2, y3, _⟩ := hO2.ok j q hj
        have hl2 : (o.take m).length ≤ 1000000 := by have := hO2.len; omega
        have hlast := last_rn hq y1
        rw [zhm hq hl2, Option.bind_some, zde (by simp), y1, Option.bind_some]
        have hnp : nm = nP → False := fun e => by rw [h3] at e; simp [nP, nTd] at e
        by_cases h4 : y.name = nTable
        · rw [dT (show y.name = bs [116, 97, 98, 108, 101] from h4)]
          -- a row of its own ahead
          have freeTr : Free nTr nTable (rn A (o.take m)) := fun i hi => by
            rw [h4, List.getLast?_eq_getElem?] at hlast
            have hil := (List.getElem?_eq_some_iff.1 hi).1
            refine ⟨_, ?_, hlast⟩
            have : i ≠ (rn A (o.take m)).length - 1 := fun e => by
              rw [← e, hi] at hlast
              exact np2 (Option.some.inj hlast)
            omega
          have fitTr : fits (rn A (o.take m)) nTr := ⟨fun e => absurd e.symm np6, fun _ => freeTr, fun e => absurd e np5, fun e => absurd e np2⟩
          obtain ⟨o', A', d', e1, e2, e3, e4, e5, e6, e7⟩ := zo7 (n := n) (nm := nTr) (at_ := []) hA hO2 np9 zmb fitTr (by omega) hn
          rw [if_neg voids_not.2.1] at e6
          rw [show (bs [116, 114] : ByteArray) = nTr from rfl, e1, Option.bind_some]
          have hrn : rn A' o' = rn A (o.take m) ++ [nTr] := by
            rw [e6]
            unfold rn
            rw [List.map_append, List.map_singleton, e7]
            congr 1
            exact e5.rn hO2.mem
          refine zj3 e2 e3 hnm ha ?_ (by omega) hn (by omega) e5
          rw [hrn]
          refine ⟨fun e => absurd e hnp, fun e => absurd e h2, fun _ => ⟨fun i hi => ⟨(rn A (o.take m)).length, ?_, by simp⟩, by rw [List.getLast?_append]; simpa using np2⟩, fun e => by rw [h3] at e; exact absurd e.symm np4⟩
          have hil := (List.getElem?_eq_some_iff.1 hi).1
          rw [List.length_append, List.length_singleton] at hil
          have : i ≠ (rn A (o.take m)).length := fun e => by
            rw [e] at hi
            simp at hi
            exact np5 hi
          omega
        · rw [dF (show ¬ y.name = bs [116, 97, 98, 108, 101] from h4)]
          refine zj3 hA hO2 hnm ha ⟨fun e => absurd e hnp, fun e => absurd e h2, fun _ => ⟨m4, by rw [hlast]; exact fun e => h4 (Option.some.inj e)⟩, fun e => by rw [h3] at e; exact absurd e.symm np4⟩ (by omega) hn (by omega) (ext.refl A)
      · rw [dF (show ¬ nm = bs [116, 100] from h3)]
        refine zj3 hA hO hnm ha ⟨fun e => hf (by rw [e]; simp [blocks, nP]), fun e => absurd e h2, fun e => absurd e h3, fun e => ?_⟩ (by omega) hn (by omega) (ext.refl A)
        intro hl
        exact (hf (by rw [e]; simp [blocks, nTable])).last hl rfl
theorem zpg {nm : ByteArray} {at_ : List za9} (hA : InvA M A d) (hO : InvO A o) (hnm : nm ≠ bs []) (ha : attrsG at_) (hlen : A.length ≤ 10000) (hn : 1000001 ≤ n) :
    OpR M A nm (zbn n ⟨oI o, (A.length : Int), d⟩ nm at_ A) := by
  have hol : o.length ≤ 1000000 := by have := hO.len; omega
  have hz := hO.zero hA
  unfold zbn
  rw [block_eq _ (by omega), Option.bind_some]
  by_cases hb : nm ∈ blocks
  · rw [decide_eq_true hb, cond_true]
    obtain ⟨b, m, b1, m1, m2, m3, m4⟩ := closeB (n := n) (c := (A.length : Int)) (d := d) hO.sp zfp.1 hO.mem hO.ne hol hn (by rw [hz]; exact fun e => zfp.2.2.2.2.2.2.2.2.2.2.2.1 (Option.some.inj e))
    rw [show [(bs [116, 100])] = [nTd] from rfl, show (bs [112] : ByteArray) = nP from rfl, b1, Option.bind_some, m1, Option.bind_some]
    exact zoh hA (hO.take m2) hnm ha (fun _ => m4) hlen hn
  · rw [decide_eq_false hb, cond_false]
    exact zoh hA hO hnm ha (fun h => absurd h hb) hlen hn
theorem zqz {i : Nat} {x : za2} (hx : A[i]? = some x) (hn : 200 ≤ n) : zc0 n (i : Int) A = some (!(decide (x.name ∈ marks))) := by
  unfold zc0
  rw [zde (by simp), hx, Option.bind_some, marked_eq _ hn, Option.bind_some]
theorem idxf_l2 (ys : List Nat) (hy : ∀ i ∈ ys, i < A.length) (hl : ys.length ≤ 1000000) (hn : 200 ≤ n) : ∀ (e j k : Nat), j + e = ys.length → e + 1 ≤ k → (∀ i ∈ ys.take j, nmA A i ∈ marks) →
    ∃ r, zaq (oI ys) (fun z0 => zc0 n z0 A) k (j : Int) = some r ∧ ((r = -1 ∧ ∀ i ∈ ys, nmA A i ∈ marks) ∨ ∃ m : Nat, r = m ∧ m < ys.length ∧ ∀ i ∈ ys.take m, nmA A i ∈ marks)
  | 0, j, k, hj, hk, hm => by
    obtain ⟨k, rfl⟩ : ∃ i, k = i + 1 := ⟨k - 1, by omega⟩
    rw [zaq, zif, dF (by omega)]
    exact ⟨-1, rfl, .inl ⟨rfl, fun i hi => hm i (by rw [List.take_of_length_le (by omega)]; exact hi)⟩⟩
  | e + 1, j, k, hj, hk, hm => by
    obtain ⟨k, rfl⟩ : ∃ i, k = i + 1 := ⟨k - 1, by omega⟩
    have hg : ys[j]? = some ys[j] := List.getElem?_eq_getElem (by omega)
    have hlt := hy ys[j] (List.getElem_mem ..)
    have hA : A[ys[j]]? = some A[ys[j]] := List.getElem?_eq_getElem hlt
    rw [zaq, zif, dT (by omega), zb1, zoi, hg, Option.map_some, Option.bind_some, zqz hA hn, Option.bind_some]
    by_cases h : A[ys[j]].name ∈ marks
    · rw [decide_eq_true h, Bool.not_true, cond_false, zb5 (by omega)]
      refine idxf_l2 ys hy hl hn e (j + 1) k (by omega) (by omega) fun i hi => ?_
      rw [List.take_add_one, hg, Option.toList_some, List.mem_append, List.mem_singleton] at hi
      rcases hi with hi | rfl
      · exact hm i hi
      · rw [zi8 hA]; exact h
    · rw [decide_eq_false h, Bool.not_false, cond_true]
      exact ⟨j, rfl, .inr ⟨j, rfl, by omega, hm⟩⟩
theorem del_l2 (hn : 200 ≤ n) (N : Nat) (hN : N ≤ 1000000) : ∀ (e r k w : Nat) (cs : List Nat), cs.length = N → (∀ i ∈ cs, i < A.length) → r + e = N → e + 1 ≤ k → w ≤ r → (∀ i ∈ cs.take w, nmA A i ∈ marks) →
    ∃ zs : List Nat, zak (fun z0 => zc0 n z0 A) k (oI cs) (w : Int) (r : Int) = some (oI zs) ∧ zs.length ≤ N ∧ ∀ i ∈ zs, i < A.length ∧ nmA A i ∈ marks
  | 0, r, k, w, cs, hc, hy, hr, hk, hw, hm => by
    obtain ⟨k, rfl⟩ : ∃ i, k = i + 1 := ⟨k - 1, by omega⟩
    rw [zak, zif, dF (by omega)]
    unfold zbi
    have hlen2 : (clrM (oI cs) (w : Int)).length = cs.length := by unfold clrM; simp [zif]; omega
    rw [show (((oI cs).length : Nat) : Int) = ((oI cs).length : Int) from rfl, zrw cs (by omega), Option.bind_some, cut_take _ (by omega), Option.bind_some]
    unfold clrM
    refine ⟨cs.take w, ?_, by rw [List.length_take]; omega, fun i hi => ⟨hy i (List.mem_of_mem_take hi), hm i hi⟩⟩
    rw [Int.toNat_natCast, List.take_append_of_le_length (by rw [List.length_take, zif]; omega), List.take_take, Nat.min_self, oI_take]
  | e + 1, r, k, w, cs, hc, hy, hr, hk, hw, hm => by
    obtain ⟨k, rfl⟩ : ∃ i, k = i + 1 := ⟨k - 1, by omega⟩
    have hg : cs[r]? = some cs[r] := List.getElem?_eq_getElem (by omega)
    have hlt := hy cs[r] (List.getElem_mem ..)
    have hA : A[cs[r]]? = some A[cs[r]] := List.getElem?_eq_getElem hlt
    rw [zak, zif, dT (by omega), zb1, zoi, hg, Option.map_some, Option.bind_some, zqz hA hn, Option.bind_some]
    by_cases h : A[cs[r]].name ∈ marks
    · have hgw : (oI cs)[w]? = some ((cs[w] : Nat) : Int) := by rw [zoi, List.getElem?_eq_getElem (by omega)]; rfl
      rw [decide_eq_true h, Bool.not_true, Bool.not_false, cond_true, zb1, hgw, Option.bind_some, zjg _ (by rw [zif]; omega), Option.bind_some]
      unfold zb0
      rw [zb5 (by omega), zb5 (by omega)]
      have e1 : (oI cs).set w ((cs[r] : Nat) : Int) = oI (cs.set w cs[r]) := by simp [oI, List.map_set]
      rw [e1]
      refine del_l2 hn N hN e (r + 1) k (w + 1) (cs.set w cs[r]) (by simpa using hc) (fun i hi => ?_) (by omega) (by omega) (by omega) fun i hi => ?_
      · rcases List.mem_or_eq_of_mem_set hi with hi | rfl
        · exact hy i hi
        · exact hlt
      · rw [List.take_add_one, List.getElem?_set_self (by omega), Option.toList_some, List.mem_append, List.mem_singleton, List.take_set_of_le (by omega)] at hi
        rcases hi with hi | rfl
        · exact hm i hi
        · rw [zi8 hA]; exact h
    · rw [decide_eq_false h, Bool.not_false, Bool.not_true, cond_false]
      unfold zb0
      rw [zb5 (by omega)]
      exact del_l2 hn N hN e (r + 1) k w cs hc hy (by omega) (by omega) (by omega) hm
theorem del_ok (ys : List Nat) (hy : ∀ i ∈ ys, i < A.length) (hl : ys.length ≤ 1000000) (hn : 1000001 ≤ n) :
    ∃ zs : List Nat, zbb n (oI ys) (fun z0 => zc0 n z0 A) A = some (oI zs) ∧ zs.length ≤ ys.length ∧ ∀ i ∈ zs, i < A.length ∧ nmA A i ∈ marks := by
  unfold zbb zbz
  obtain ⟨r, e1, e2⟩ := idxf_l2 (n := n) ys hy hl (by omega) ys.length 0 n (by omega) (by omega) (by simp)
  rw [show (0 : Int) = ((0 : Nat) : Int) from rfl, e1, Option.bind_some]
  rcases e2 with ⟨rfl, e2⟩ | ⟨m, rfl, e2, e3⟩
  · rw [dT rfl]
    exact ⟨ys, rfl, Nat.le_refl _, fun i hi => ⟨hy i hi, e2 i hi⟩⟩
  · rw [dF (by omega), zb5 (by omega)]
    exact del_l2 (by omega) ys.length hl (ys.length - (m + 1)) (m + 1) n m ys rfl hy (by omega) (by omega) (by omega) e3
theorem marks_fit {l : List ByteArray} {nm : ByteArray} (h : nm ∈ marks) : nm ≠ bs [] ∧ fits l nm := by
  have : nm ≠ bs [] ∧ nm ≠ nP ∧ nm ≠ nTr ∧ nm ≠ nTd ∧ nm ≠ nTable := by
    simp only [marks, List.mem_cons, List.not_mem_nil, or_false] at h
    rcases h with rfl | rfl | rfl | rfl | rfl <;> refine ⟨?_, ?_, ?_, ?_, ?_⟩ <;> simp [nP, nTd, nTr, nTable]
  exact ⟨this.1, zqw this.2.1 this.2.2.1 this.2.2.2.1 this.2.2.2.2⟩
theorem reopen_l5 {A0 : List za2} (zs : List Nat) (hz : ∀ i ∈ zs, i < A0.length ∧ nmA A0 i ∈ marks) (hzl : zs.length ≤ 8) (hn : 1000001 ≤ n) : ∀ (e j k : Nat) (A : List za2) (o : List Nat) (d : Bool), j + e = zs.length → e + 1 ≤ k → InvA M A d → InvO A o → ext A0 A → A.length ≤ A0.length + j → A0.length ≤ 10000 →
    ElemR M A0 8 (zbq n (oI zs) k (oI o) (A.length : Int) d (j : Int) A)
  | 0, j, k, A, o, d, hj, hk, hA, hO, he, hl, h0 => by
    obtain ⟨k, rfl⟩ : ∃ i, k = i + 1 := ⟨k - 1, by omega⟩
    rw [zbq, zif, dF (by omega)]
    exact ⟨o, A, d, rfl, hA, hO, by omega, he⟩
  | e + 1, j, k, A, o, d, hj, hk, hA, hO, he, hl, h0 => by
    obtain ⟨k, rfl⟩ : ∃ i, k = i + 1 := ⟨k - 1, by omega⟩
    have hg : zs[j]? = some zs[j] := List.getElem?_eq_getElem (by omega)
    obtain ⟨h1, h2⟩ := hz zs[j] (List.getElem_mem ..)
    obtain ⟨x, g1, g2, _, g4⟩ := he.2 _ _ (List.getElem?_eq_getElem h1)
    rw [zi8 (List.getElem?_eq_getElem h1), ← g2] at h2
    obtain ⟨u1, u2⟩ := marks_fit (l := rn A o) h2
    obtain ⟨o', A', d', e1, e2, e3, e4, e5, _, _⟩ := zo7 (n := n) (at_ := x.attrs) hA hO u1 ((hA.own _ _ g1).2 u1).1 u2 (by omega) hn
    rw [zbq, zif, dT (by omega), zb1, zoi, hg, Option.map_some, Option.bind_some, zde (by simp), g1, Option.bind_some, e1, Option.bind_some, zb5 (by omega)]
    exact reopen_l5 zs hz hzl hn e (j + 1) k A' o' d' (by omega) (by omega) e2 e3 (he.trans e5) (by omega) h0
theorem zon {nm : ByteArray} (b : Nat) (hA : InvA M A d) (hO : InvO A o) (hlen : A.length ≤ 10000) (hn : 1000001 ≤ n) : ElemR M A 8 (zd4 n A ⟨oI o, (A.length : Int), d⟩ nm (b : Int)) := by
  have hol : o.length ≤ 1000000 := by have := hO.len; omega
  unfold zd4
  obtain ⟨r, r1, r2⟩ := last_eq (n := n) (c := (A.length : Int)) (d := d) (A := A) b nm hO.mem hO.ne hol hn
  rw [r1, Option.bind_some]
  rcases r2 with ⟨rfl, e2⟩ | ⟨m, rfl, e2, e3, e4, e5⟩
  · rw [dT (by omega)]
    by_cases hp : nm = nP
    · rw [dT (show nm = bs [112] from hp)]
      obtain ⟨o', A', d', e1, e2, e3, e4, e5, e6⟩ := zpg (n := n) (nm := nP) (at_ := []) hA hO zfp.2.2.2.2.2.2.2.2.2.2.1 zmb hlen hn
      have h2 := e6 voids_not.1
      have hol' : o'.length ≤ 1000000 := by have := e3.len; omega
      rw [show (bs [112] : ByteArray) = nP from rfl, e1, Option.bind_some]
      simp only [zif]
      rw [zi4 (by omega), show ((o'.length : Int) - 1) = ((o'.length - 1 : Nat) : Int) by omega, zry (by omega), Option.bind_some]
      exact ⟨_, A', d', rfl, e2, e3.take (by omega), by omega, e5⟩
    · rw [dF (show ¬ nm = bs [112] from hp)]
      exact ⟨o, A, d, rfl, hA, hO, by omega, ext.refl A⟩
  · rw [dF (by omega), zb5 (by omega)]
    have hcut : cutM (oI o) ((m + 1 : Nat) : Int) ((oI o).length : Int) = some (oI (o.drop (m + 1))) := zrw o (by omega)
    have hoff : ∀ i ∈ o.drop (m + 1), i < A.length := fun i hi => hO.mem i (List.mem_of_mem_drop hi)
    have hol2 : (o.drop (m + 1)).length ≤ 1000000 := by rw [List.length_drop]; omega
    simp only
    rw [hcut, Option.bind_some, zew (by rw [zif]; simp; omega), Option.bind_some, List.nil_append, zry (by omega), Option.bind_some, marked_eq _ (by omega), Option.bind_some]
    have hO2 := hO.take (m := m) (by omega)
    by_cases hmk : nm ∈ marks
    · rw [decide_eq_true hmk, Bool.not_true, cond_false]
      obtain ⟨zs, z1, z2, z3⟩ := del_ok (n := n) _ hoff hol2 hn
      rw [z1, Option.bind_some]
      have hlo : ∃ lo : Nat, (bif decide ((w64 (((oI zs).length : Int) - 8)) < 0) then 0 else (w64 (((oI zs).length : Int) - 8))) = (lo : Int) ∧ lo ≤ zs.length ∧ zs.length - lo ≤ 8 := by
        rw [zif, zi4 (by omega)]
        by_cases h : ((zs.length : Int) - 8) < 0
        · rw [dT h]; exact ⟨0, rfl, by omega, by omega⟩
        · rw [dF h]; exact ⟨zs.length - 8, by omega, by omega, by omega⟩
      obtain ⟨lo, l1, l2, l3⟩ := hlo
      rw [l1]
      have hcut2 : cutM (oI zs) (lo : Int) ((oI zs).length : Int) = some (oI (zs.drop lo)) := zrw zs l2
      rw [hcut2, Option.bind_some]
      exact reopen_l5 (zs.drop lo) (fun i hi => z3 i (List.mem_of_mem_drop hi)) (by rw [List.length_drop]; omega) hn (zs.drop lo).length 0 n A (o.take m) d (by omega) (by rw [List.length_drop]; omega) hA hO2 (ext.refl A) (by omega) hlen
    · rw [decide_eq_false hmk, Bool.not_false, cond_true]
      exact ⟨_, A, d, rfl, hA, hO2, by omega, ext.refl A⟩
theorem closed_ok {nm : ByteArray} (hA : InvA M A d) (hO : InvO A o) (hlen : A.length ≤ 10000) (hn : 1000001 ≤ n) : ElemR M A 8 (zf6 n ⟨oI o, (A.length : Int), d⟩ nm A) := by
  have hol : o.length ≤ 1000000 := by have := hO.len; omega
  have k1 : ∀ b, ElemR M A 8 (zd5 n A ⟨oI o, (A.length : Int), d⟩ nm b) := fun b => by
    unfold zd5
    cases b with
    | true => exact ⟨o, A, d, rfl, hA, hO, by omega, ext.refl A⟩
    | false =>
      rw [cond_false]
      obtain ⟨b, b1, b2, _, _⟩ := bar_eq (n := n) (c := (A.length : Int)) (d := d) (A := A) [(bs [116, 100])] hO.mem hO.ne hol (by simp) hn
      rw [b1, Option.bind_some, in_eq _ _ (by simp) (by omega), Option.bind_some]
      cases decide (nm ∈ [(bs [116, 100]), (bs [116, 114]), (bs [116, 97, 98, 108, 101])]) with
      | true => exact zon 0 hA hO hlen hn
      | false => exact zon b hA hO hlen hn
  unfold zf6
  rw [zns _ (by omega), Option.bind_some]
  cases decide (nm ∈ voids) with
  | true => exact k1 true
  | false => exact k1 _
end
end Go.Proofs.Ytklcdfnhdljkjaa
