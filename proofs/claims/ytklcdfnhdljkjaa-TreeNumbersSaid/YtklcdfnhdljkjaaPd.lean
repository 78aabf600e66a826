/-
  Walks and laws of this seat.
-/
import Derived.Test.YtklcdfnhdljkjaaPc
import Derived.Test.YtklcdfnhdljkjaaPb
import Derived.Test.YtklcdfnhdljkjaaL6k
namespace Go.Proofs.Ytklcdfnhdljkjaa
set_option linter.unusedVariables false
set_option linter.unusedSimpArgs false
open Go.RowKit Go.Sl
variable {n : Nat}
section
variable {M : Nat} {A : List za2} {d : Bool}
inductive Anc (A : List za2) (i : Nat) : Nat → Prop
  | refl : Anc A i i
  | step {j q : Nat} {x : za2} : A[j]? = some x → 0 < j → x.above = (q : Int) → Anc A i q → Anc A i j
theorem Anc.le (hA : InvA M A d) {i j : Nat} (h : Anc A i j) : i ≤ j := by
  induction h with
  | refl => exact Nat.le_refl _
  | step h1 h0 h2 _ ih =>
    obtain ⟨q', y, g1, g2, _⟩ := hA.up _ _ h1 h0
    rw [h2] at g1
    have := Int.ofNat.inj g1
    omega
theorem Anc.cmp {i i' j : Nat} (h : Anc A i j) (g : Anc A i' j) : Anc A i i' ∨ Anc A i' i := by
  induction h with
  | refl => exact .inr g
  | step h1 h0 h2 h3 ih =>
    cases g with
    | refl => exact .inl (.step h1 h0 h2 h3)
    | step g1 g0 g2 g3 =>
      rw [h1] at g1
      cases g1
      rw [h2] at g2
      have := Int.ofNat.inj g2
      subst this
      exact ih g3
theorem Anc.apart (hA : InvA M A d) {i j k k' : Nat} {x x' : za2} (h1 : A[k]? = some x) (h2 : A[k']? = some x') (p1 : 0 < k) (p2 : 0 < k') (a1 : x.above = (i : Int)) (a2 : x'.above = (i : Int)) (hne : k ≠ k') (g1 : Anc A k j) (g2 : Anc A k' j) : False := by
  have key : ∀ {u v : Nat} {y y' : za2}, A[u]? = some y → A[v]? = some y' → 0 < u → 0 < v → y.above = (i : Int) → y'.above = (i : Int) → u ≠ v → Anc A u v → False := fun {u v y y'} q1 q2 q3 q4 q5 q6 q7 q8 => by
    cases q8 with
    | refl => exact q7 rfl
    | step r1 r0 r2 r3 =>
      rw [q2] at r1
      cases r1
      rw [q6] at r2
      have e := Int.ofNat.inj r2
      subst e
      have := r3.le hA
      obtain ⟨q', z, s1, s2, _⟩ := hA.up u y q1 q3
      rw [q5] at s1
      have := Int.ofNat.inj s1
      omega
  rcases g1.cmp g2 with h | h
  · exact key h1 h2 p1 p2 a1 a2 hne h
  · exact key h2 h1 p2 p1 a2 a1 (fun e => hne e.symm) h
/-- What the part of a node is like. -/
structure PartP (A : List za2) (i : Nat) (p : zad) : Prop where
  good : goodP p
  ok : okP p
  name : p.Name = nmA A i
  high : ∀ D, Dep A i D → hgt p + D ≤ 257
  size : ∃ L : List Int, L.length = psize p ∧ L.Nodup ∧ ∀ j ∈ L, ∃ m : Nat, j = (m : Int) ∧ m < A.length ∧ Anc A i m
theorem choice {Q : Int → zad → Prop} : ∀ ks : List Int, (∀ k ∈ ks, ∃ p, Q k p) → ∃ ps : List zad, ps.length = ks.length ∧ ∀ (j : Nat) k, ks[j]? = some k → ∃ p, ps[j]? = some p ∧ Q k p
  | [], _ => ⟨[], rfl, fun j k h => by simp at h⟩
  | k :: ks, h => by
    obtain ⟨p, hp⟩ := h k (by simp)
    obtain ⟨ps, h1, h2⟩ := choice ks fun k' hk' => h k' (by simp [hk'])
    refine ⟨p :: ps, by simp [h1], fun j k' hj => ?_⟩
    cases j with
    | zero => simp at hj; subst hj; exact ⟨p, rfl, hp⟩
    | succ j => simpa using h2 j k' (by simpa using hj)
theorem goodPs_of : ∀ {ps : List zad}, (∀ p ∈ ps, goodP p) → goodPs ps
  | [], _ => trivial
  | p :: ps, h => ⟨h p (by simp), goodPs_of fun q hq => h q (by simp [hq])⟩
theorem hgts_of {H : Nat} : ∀ {ps : List zad}, (∀ p ∈ ps, hgt p ≤ H) → hgts ps ≤ H
  | [], _ => Nat.zero_le _
  | p :: ps, h => by
    have h1 := h p (by simp)
    have h2 := hgts_of (ps := ps) fun q hq => h q (by simp [hq])
    simp only [hgts]; omega
theorem adjP_of : ∀ {ps : List zad}, (∀ (j : Nat) a b, ps[j]? = some a → ps[j + 1]? = some b → ¬ (a.Name = bs [] ∧ b.Name = bs [])) → adjP ps
  | [], _ => trivial
  | p :: ps, h => by
    refine ⟨fun c hc => h 0 p c rfl ?_, adjP_of fun j a b ha hb => h (j + 1) a b (by simpa using ha) (by simpa using hb)⟩
    rw [List.getElem?_cons_succ, ← List.head?_eq_getElem?]; exact hc
theorem sizes_of (hA : InvA M A d) {i : Nat} : ∀ (ks : List Int) (ps : List zad), ks.Nodup → (∀ k ∈ ks, ∃ (m : Nat) (y : za2), k = (m : Int) ∧ 0 < m ∧ A[m]? = some y ∧ y.above = (i : Int)) → ps.length = ks.length →
    (∀ (j : Nat) k p, ks[j]? = some k → ps[j]? = some p → ∃ L : List Int, L.length = psize p ∧ L.Nodup ∧ ∀ j ∈ L, ∃ m : Nat, j = (m : Int) ∧ m < A.length ∧ Anc A k.toNat m) →
    ∃ L : List Int, L.length = pssize ps ∧ L.Nodup ∧ ∀ j ∈ L, ∃ m : Nat, j = (m : Int) ∧ m < A.length ∧ ∃ k ∈ ks, Anc A k.toNat m
  | [], ps, _, _, hl, _ => by
    have : ps = [] := List.eq_nil_of_length_eq_zero hl
    subst this
    exact ⟨[], rfl, List.nodup_nil, fun j hj => by cases hj⟩
  | k :: ks, [], _, _, hl, _ => by cases hl
  | k :: ks, p :: ps, hn, hk, hl, hL => by
    obtain ⟨hn1, hn2⟩ := List.nodup_cons.1 hn
    obtain ⟨L1, a1, a2, a3⟩ := hL 0 k p rfl rfl
    obtain ⟨L2, b1, b2, b3⟩ := sizes_of hA ks ps hn2 (fun k' hk' => hk k' (by simp [hk'])) (by simpa using hl) fun j k' p' h1 h2 => hL (j + 1) k' p' (by simpa using h1) (by simpa using h2)
    refine ⟨L1 ++ L2, by rw [List.length_append, a1, b1]; rfl, List.nodup_append.2 ⟨a2, b2, fun x hx y hy e => ?_⟩, fun j hj => ?_⟩
    · subst e
      obtain ⟨m, m1, m2, m3⟩ := a3 x hx
      obtain ⟨m', m1', _, k', hk', m3'⟩ := b3 x hy
      have : m = m' := by omega
      subst this
      obtain ⟨u, y, u1, u2, u3, u4⟩ := hk k (by simp)
      obtain ⟨v, z, v1, v2, v3, v4⟩ := hk k' (by simp [hk'])
      subst u1; subst v1
      rw [Int.toNat_natCast] at m3 m3'
      exact Anc.apart hA u3 v3 u2 v2 u4 v4 (fun e => hn1 (by rw [e]; exact hk')) m3 m3'
    · rcases List.mem_append.1 hj with h | h
      · obtain ⟨m, m1, m2, m3⟩ := a3 j h
        exact ⟨m, m1, m2, k, by simp, m3⟩
      · obtain ⟨m, m1, m2, k', m3, m4⟩ := b3 j h
        exact ⟨m, m1, m2, k', by simp [m3], m4⟩
theorem part_loop (slf : Int → List za2 → Option zad) (x : za2) (ps : List zad) (hl : ps.length = x.kids.length) (hp : ∀ (j : Nat) k, x.kids[j]? = some k → ∃ p, ps[j]? = some p ∧ slf k A = some p) (hb : x.kids.length ≤ 1000000) : ∀ (e j k : Nat), j + e = x.kids.length → e + 1 ≤ k →
    zda A slf x k (ps.take j) (j : Int) = some ⟨x.name, x.text, x.attrs, ps⟩
  | 0, j, k, hj, hk => by
    obtain ⟨k, rfl⟩ : ∃ i, k = i + 1 := ⟨k - 1, by omega⟩
    rw [zda, dF (by omega), List.take_of_length_le (by omega)]; rfl
  | e + 1, j, k, hj, hk => by
    obtain ⟨k, rfl⟩ : ∃ i, k = i + 1 := ⟨k - 1, by omega⟩
    have hg : x.kids[j]? = some x.kids[j] := List.getElem?_eq_getElem (by omega)
    obtain ⟨p, p1, p2⟩ := hp j _ hg
    rw [zda, dT (by omega), zb1, hg, Option.bind_some, p2, Option.bind_some, zew (by rw [List.length_take]; simp; omega), Option.bind_some, zb5 (by omega)]
    have : ps.take j ++ [p] = ps.take (j + 1) := by rw [List.take_add_one, p1]; rfl
    rw [this]
    exact part_loop slf x ps hl hp hb e (j + 1) k (by omega) (by omega)
theorem part_ok (hA : InvA M A false) (hlen : A.length ≤ 20000) : ∀ (m i k : Nat), A.length - i ≤ m → i < A.length → m + 20010 ≤ k → ∃ x p, A[i]? = some x ∧ zex k (i : Int) A = some p ∧ PartP A i p ∧ p.Attrs = x.attrs
  | 0, i, k, hm, hi, hk => by omega
  | m + 1, i, k, hm, hi, hk => by
    obtain ⟨k, rfl⟩ : ∃ j, k = j + 1 := ⟨k - 1, by omega⟩
    have hx : A[i]? = some A[i] := List.getElem?_eq_getElem hi
    obtain ⟨x, ex⟩ : ∃ x, x = A[i] := ⟨_, rfl⟩
    rw [← ex] at hx
    have hkl := hA.kidsLen hx
    have kid : ∀ q ∈ x.kids, ∃ (u : Nat) (y : za2), q = (u : Int) ∧ 0 < u ∧ A[u]? = some y ∧ y.above = (i : Int) := fun q hq => hA.down i x q hx hq
    have klt : ∀ {u : Nat} {y : za2}, 0 < u → A[u]? = some y → y.above = (i : Int) → i < u ∧ Rel2 x.name y.name := fun {u y} h0 h1 h2 => by
      obtain ⟨q', z, s1, s2, s3, _, s4, _⟩ := hA.up u y h1 h0
      rw [h2] at s1
      have := Int.ofNat.inj s1
      subst this
      rw [hx] at s3
      cases s3
      exact ⟨s2, s4⟩
    obtain ⟨ps, c1, c2⟩ := choice (Q := fun q p => ∃ u : Nat, q = (u : Int) ∧ zex k (u : Int) A = some p ∧ PartP A u p) x.kids fun q hq => by
      obtain ⟨u, y, e1, e2, e3, e4⟩ := kid q hq
      have := (klt e2 e3 e4).1
      obtain ⟨_, p, _, p1, p2, _⟩ := part_ok hA hlen m u k (by omega) (List.getElem?_eq_some_iff.1 e3).1 (by omega)
      exact ⟨p, u, e1, p1, p2⟩
    have mem : ∀ p ∈ ps, ∃ (j u : Nat) (y : za2), ps[j]? = some p ∧ x.kids[j]? = some (u : Int) ∧ 0 < u ∧ A[u]? = some y ∧ y.above = (i : Int) ∧ PartP A u p := fun p hp => by
      obtain ⟨j, hj⟩ := List.getElem?_of_mem hp
      have hjl := (List.getElem?_eq_some_iff.1 hj).1
      have hg : x.kids[j]? = some x.kids[j] := List.getElem?_eq_getElem (by omega)
      obtain ⟨p', q1, u, q2, _, q3⟩ := c2 j _ hg
      rw [hj] at q1
      cases q1
      obtain ⟨v, y, e1, e2, e3, e4⟩ := kid _ (List.mem_of_getElem? hg)
      rw [q2] at e1 hg
      have := Int.ofNat.inj e1
      subst this
      exact ⟨j, u, y, hj, hg, e2, e3, e4, q3⟩
    refine ⟨x, ⟨x.name, x.text, x.attrs, ps⟩, hx, ?_, ⟨?_, ?_, by rw [zi8 hx], fun D hD => ?_, ?_⟩, rfl⟩
    · rw [zex]
      unfold zhx
      rw [zde (by simp), hx, Option.bind_some]
      exact part_loop (zex k) x ps c1 (fun j q hq => by
        obtain ⟨p, h1, u, h2, h3, _⟩ := c2 j q hq
        exact ⟨p, h1, by rw [h2]; exact h3⟩) (by omega) x.kids.length 0 k (by omega) (by omega)
    · have hown := hA.own i x hx
      unfold goodP
      refine ⟨fun h => (hown.1 h).1, fun h => ⟨(hown.2 h).1.1, (hown.2 h).1.2, fun hv => ?_, fun p hp => ?_, adjP_of fun j a b ha hb => ?_, goodPs_of fun p hp => ?_⟩⟩
      · have := (hown.2 h).2 hv
        rw [this] at c1
        exact List.eq_nil_of_length_eq_zero c1
      · obtain ⟨j, u, y, _, _, e2, e3, e4, e5⟩ := mem p hp
        rw [e5.name, zi8 e3]
        exact (klt e2 e3 e4).2.1
      · have hjl := (List.getElem?_eq_some_iff.1 hb).1
        have g1 : x.kids[j]? = some x.kids[j] := List.getElem?_eq_getElem (by omega)
        have g2 : x.kids[j + 1]? = some x.kids[j + 1] := List.getElem?_eq_getElem (by omega)
        obtain ⟨p, h1, u, h2, _, h3⟩ := c2 _ _ g1
        obtain ⟨p', h1', u', h2', _, h3'⟩ := c2 _ _ g2
        rw [ha] at h1
        cases h1
        rw [hb] at h1'
        cases h1'
        have := hA.adj i x hx j _ _ g1 g2
        rw [h2, h2', Int.toNat_natCast, Int.toNat_natCast] at this
        rw [h3.name, h3'.name]
        exact this
      · obtain ⟨j, u, y, _, _, _, _, _, e5⟩ := mem p hp
        exact e5.good
    · rw [okP_eq]
      refine ⟨?_, okPs_of fun p hp => ?_⟩
      · have hown := hA.own i x hx
        have hre : reachBytes = 140737488351232 := rfl
        by_cases h : x.name = bs []
        · have := (hown.1 h).2.2.2
          show x.attrs.length * 32 ≤ _
          rw [this]; simp
        · have := (hown.2 h).1.1
          show x.attrs.length * 32 ≤ _
          omega
      · obtain ⟨j, u, y, _, _, _, _, _, e5⟩ := mem p hp
        exact e5.ok
    · have hdp := hA.deep rfl i D hD
      have : hgts ps ≤ 256 - D := hgts_of fun p hp => by
        obtain ⟨j, u, y, _, _, e2, e3, e4, e5⟩ := mem p hp
        have := e5.high (D + 1) (.step e3 e4 e2 hD)
        omega
      simp only [hgt]; omega
    · obtain ⟨L, l1, l2, l3⟩ := sizes_of hA (i := i) x.kids ps (hA.nodup i x hx) kid c1 fun j q p hq hp => by
        obtain ⟨p', h1, u, h2, _, h3⟩ := c2 j q hq
        rw [hp] at h1
        cases h1
        rw [h2, Int.toNat_natCast]
        exact h3.size
      have below : ∀ z ∈ L, ∃ w : Nat, z = (w : Int) ∧ w < A.length ∧ Anc A i w ∧ i < w := fun z hz => by
        obtain ⟨w, w1, w2, q, w3, w4⟩ := l3 z hz
        obtain ⟨u, y, e1, e2, e3, e4⟩ := kid q w3
        subst e1
        rw [Int.toNat_natCast] at w4
        have h1 := (klt e2 e3 e4).1
        have h2 := w4.le hA
        refine ⟨w, w1, w2, ?_, by omega⟩
        clear w1 w3
        induction w4 with
        | refl => exact .step e3 e2 e4 .refl
        | step g1 g0 g2 g3 ih =>
          exact .step g1 g0 g2 (ih (by
            obtain ⟨q', z', s1, s2, s3, _⟩ := hA.up _ _ g1 g0
            rw [g2] at s1
            have := Int.ofNat.inj s1
            subst this
            exact (List.getElem?_eq_some_iff.1 s3).1) (g3.le hA))
      refine ⟨(i : Int) :: L, by rw [zoy]; simp [l1]; omega, List.nodup_cons.2 ⟨fun hm => ?_, l2⟩, fun z hz => ?_⟩
      · obtain ⟨w, w1, _, _, w4⟩ := below _ hm
        omega
      · rcases List.mem_cons.1 hz with rfl | hz
        · exact ⟨i, rfl, hi, .refl⟩
        · obtain ⟨w, w1, w2, w3, _⟩ := below z hz
          exact ⟨w, w1, w2, w3⟩
theorem PartP.size_le {i : Nat} {p : zad} (h : PartP A i p) : psize p ≤ A.length := by
  obtain ⟨L, l1, l2, l3⟩ := h.size
  rw [← l1]
  exact pigeon _ _ l2 fun k hk => by
    obtain ⟨m, m1, m2, _⟩ := l3 k hk
    exact ⟨m, m1, m2⟩
end
end Go.Proofs.Ytklcdfnhdljkjaa
namespace Go.Proofs.Ytklcdfnhdljkjaa
set_option linter.unusedVariables false
set_option linter.unusedSimpArgs false
open Go.RowKit Go.Sl
variable {n : Nat}
theorem right_ok {p : zad} (hn : p.Name ≠ bs []) (hg : goodP p) (hs : psize p ≤ 4096) (hh : hgt p ≤ 256) (hF : 10000 ≤ n) : zjy n ⟨lay p 0 (-1) (-1) (-1)⟩ = some 0 := by
  obtain ⟨l1, l2, _⟩ := zo3 hn hg
  obtain ⟨r, a1, a2⟩ := dom_Right_eq (lay p 0 (-1) (-1) (-1)) (n := n) (by omega)
  rw [a1]
  have := zoj p
  have := zo0 p
  have hl := zl3 p 0 (-1) (-1) (-1)
  rcases a2 with ⟨h, _⟩ | ⟨h, _⟩ | ⟨_, _, ⟨h, _⟩ | ⟨_, h, _⟩ | ⟨_, _, h⟩⟩
  · omega
  · omega
  · exact absurd l1 h
  · exact absurd h (l2 hh)
  · rw [h]
theorem make_ok {p : zad} (hn : p.Name ≠ bs []) (hg : goodP p) (hok : okP p) (hs : psize p ≤ 4096) (hh : hgt p ≤ 256) (hF : 10000 ≤ n) : zla n p = some (⟨lay p 0 (-1) (-1) (-1)⟩, 0) := by
  have g := make_lay (psize p) p n [] (-1) (-1) (Nat.le_refl _) (by omega) hok (by simp; omega)
  rw [List.nil_append, List.length_nil] at g
  unfold zla
  rw [show zhl n p (-1) (-1) ({Nodes := ([] : List zac)} : zae) = _ from g, Option.bind_some, right_ok hn hg hs hh hF, Option.bind_some]
  rfl
def TokG (t : za5) : Prop := (t.Kind = 1 ∧ t.Text ≠ bs [] ∧ t.Text.size ≤ 16000000) ∨ ((t.Kind = 2 ∨ t.Kind = 3) ∧ t.Name ≠ bs [] ∧ attrsG t.Attrs)
theorem attrs_g {l : List za9} (h : AttrsOK l) : attrsG l := ⟨h.1, fun i a ha => ⟨(h.2.1 a (List.mem_of_getElem? ha)).2, fun j hj b hb => by
  obtain ⟨l1, e1⟩ := List.getElem?_eq_some_iff.1 ha
  obtain ⟨l2, e2⟩ := List.getElem?_eq_some_iff.1 hb
  have := List.pairwise_iff_getElem.1 h.2.2 j i l2 l1 hj
  rw [e1, e2] at this
  exact this⟩⟩
theorem tok_g {t : za5} (h : TokOK t) : TokG t := by
  rcases h with ⟨h1, h2, h3, _⟩ | ⟨h1, h2, _, _, h5, _⟩
  · exact .inl ⟨h1, h2, h3⟩
  · exact .inr ⟨h1, h2, attrs_g h5⟩
def BuiltP (p : zad) : Prop := p.Name = nRoot ∧ p.Attrs = [] ∧ goodP p ∧ psize p ≤ 4096 ∧ hgt p ≤ 256
def BuiltR (r : Option (zae × Int)) : Prop := r = some (⟨[]⟩, 4) ∨ r = some (⟨[]⟩, 5) ∨ ∃ p, r = some (⟨lay p 0 (-1) (-1) (-1)⟩, 0) ∧ BuiltP p
theorem zl0 : nRoot ≠ bs [] := by simp [nRoot]
theorem zqq : nRoot ∉ voids := by simp [nRoot, voids]
section
variable {M : Nat} {A : List za2} {d : Bool} {o : List Nat}
theorem zpu (hA : InvA M A false) (hlen : A.length ≤ 4096) (hn : 20000000 ≤ n) (y : List Int) (c : Int) : ∃ p, zhc n y c false A = some (⟨lay p 0 (-1) (-1) (-1)⟩, 0) ∧ BuiltP p := by
  unfold zhc
  obtain ⟨r, r1, r2, r3, r4⟩ := hA.root
  have h0 := (List.getElem?_eq_some_iff.1 r1).1
  obtain ⟨x, p, p1, p2, p3, p4⟩ := part_ok hA (by omega) A.length 0 n (by omega) h0 (by omega)
  rw [r1] at p1
  cases p1
  have hnm : p.Name = nRoot := by rw [p3.name, zi8 r1, r2]
  have hsz := p3.size_le
  have hh := p3.high 1 (.root r1)
  rw [cond_false, show ((([] : List za2).length : Nat) : Int) = ((0 : Nat) : Int) from rfl, p2, Option.bind_some, make_ok (by rw [hnm]; exact zl0) p3.good p3.ok (by omega) (by omega) (by omega), Option.bind_some]
  exact ⟨p, rfl, hnm, by rw [p4, r3], p3.good, by omega, by omega⟩
theorem built_k1 (hA : InvA M A d) (hlen : A.length ≤ 4096) (hn : 20000000 ≤ n) (y : List Int) (c : Int) : BuiltR (zhc n y c d A) := by
  cases d with
  | true => exact .inr (.inl rfl)
  | false =>
    obtain ⟨p, h1, h2⟩ := zpu hA hlen hn y c
    exact .inr (.inr ⟨p, h1, h2⟩)
theorem build_l2 (T : Nat) (hT : T = 16000000) (ts : List za5) (hts : ∀ t ∈ ts, TokG t) (hl : ts.length ≤ 1000000) (hn : 20000000 ≤ n) : ∀ (e j k : Nat) (A : List za2) (o : List Nat) (d : Bool), j + e = ts.length → e + 1 ≤ k → InvA (j * T) A d → InvO A o → A.length ≤ 4096 →
    BuiltR (zan n ts k (oI o) (A.length : Int) d (j : Int) A)
  | 0, j, k, A, o, d, hj, hk, hA, hO, hlen => by
    obtain ⟨k, rfl⟩ : ∃ i, k = i + 1 := ⟨k - 1, by omega⟩
    rw [zan, dF (by omega)]
    exact built_k1 hA hlen hn _ _
  | e + 1, j, k, A, o, d, hj, hk, hA, hO, hlen => by
    obtain ⟨k, rfl⟩ : ∃ i, k = i + 1 := ⟨k - 1, by omega⟩
    have hg : ts[j]? = some ts[j] := List.getElem?_eq_getElem (by omega)
    obtain ⟨t, ht⟩ : ∃ t, t = ts[j] := ⟨_, rfl⟩
    rw [← ht] at hg
    have htg := hts t (List.mem_of_getElem? hg)
    -- on to the next
    have next : ∀ (A' : List za2) (o' : List Nat) (d' : Bool), InvA (j * T + T) A' d' → InvO A' o' → BuiltR (zfn (j : Int) (zan n ts k) (oI o') (A'.length : Int) d' A') := fun A' o' d' hA' hO' => by
      unfold zfn
      by_cases h : 4096 < A'.length
      · rw [dT (by omega)]
        exact .inl rfl
      · rw [dF (by omega), zb5 (by omega)]
        exact build_l2 T hT ts hts hl hn e (j + 1) k A' o' d' (by omega) (by omega) (by rw [Nat.add_mul, Nat.one_mul]; exact hA') hO' (by omega)
    rw [zan, dT (by omega), zb1, hg, Option.bind_some]
    rcases htg with ⟨h1, h2, h3⟩ | ⟨h1, h2, h3⟩
    · rw [dT h1, show decide (t.Text ≠ (bs [])) = true from decide_eq_true h2, cond_true]
      obtain ⟨A', d', c1, c2, c3, c4, c5⟩ := chars_ok (n := n) (T := T) hA hO h2 (by omega) (by have := Nat.mul_le_mul_right T (show j ≤ 1000000 by omega); omega) (by omega) (by omega) (by omega)
      rw [c1, Option.bind_some]
      exact next A' o d' c2 c3
    · rw [dF (by rcases h1 with h1 | h1 <;> omega)]
      rcases h1 with h1 | h1
      · rw [dT h1]
        obtain ⟨o', A', d', c1, c2, c3, c4, c5, _⟩ := zpg (n := n) hA hO h2 h3 (by omega) (by omega)
        rw [c1, Option.bind_some]
        exact next A' o' d' (c2.more (by omega)) c3
      · rw [dF (by omega), dT h1]
        obtain ⟨o', A', d', c1, c2, c3, c4, c5⟩ := closed_ok (n := n) (nm := t.Name) hA hO (by omega) (by omega)
        rw [c1, Option.bind_some]
        exact next A' o' d' (c2.more (by omega)) c3
def rootN : za2 := {name := bs [114, 111, 111, 116], text := bs [], attrs := [], above := -1, kids := []}
theorem zm7 : InvA 0 [rootN] false ∧ InvO [rootN] [0] := by
  have only : ∀ {i : Nat} {x : za2}, [rootN][i]? = some x → i = 0 ∧ x = rootN := fun {i x} h => by
    cases i with
    | zero => simp at h; exact ⟨rfl, h.symm⟩
    | succ i => simp at h
  have lone : ∀ {a s : ByteArray}, Sep a s (rn [rootN] [0]) := fun {a s} i j hij hi hj => by
    have := (List.getElem?_eq_some_iff.1 hj).1
    simp [rn] at this
    omega
  refine ⟨⟨⟨rootN, rfl, rfl, rfl, rfl⟩, fun i x h h0 => ?_, fun i x k h hk => ?_, fun i x h => ?_, fun i x h => ?_, fun i x h => ?_, fun _ i D hD => ?_⟩, ⟨rfl, fun j i h => ?_, lone, lone, lone, Nat.le_refl _⟩⟩
  · have := (only h).1; omega
  · rw [(only h).2] at hk; cases hk
  · rw [(only h).2]; exact List.nodup_nil
  · rw [(only h).2]; exact ⟨fun h => absurd h zl0, fun _ => ⟨zmb, fun _ => rfl⟩⟩
  · rw [(only h).2]; intro j a b ja; simp [rootN] at ja
  · cases hD with
    | root _ => omega
    | step g1 _ g0 _ => have := (only g1).1; omega
  · cases j with
    | zero => simp at h; subst h; exact ⟨rootN, rfl, zl0, zqq, fun h0 => by omega⟩
    | succ j => simp at h
theorem build_ok (ts : List za5) (hts : ∀ t ∈ ts, TokG t) (hl : ts.length ≤ 1000000) (hn : 20000000 ≤ n) : BuiltR (zgp n ts) := by
  unfold zgp
  exact build_l2 _ rfl ts hts hl hn ts.length 0 n [rootN] [0] false (by omega) (by omega) (by rw [Nat.zero_mul]; exact zm7.1) zm7.2 (by simp)
theorem zks : ∀ (k : Nat) (r : List Int), (tokS k r).length ≤ 2 * k
  | 0, _ => by simp [tokS]
  | _ + 1, [] => by simp [tokS]
  | k + 1, x :: r => by
    rw [tokS]
    cases beginsB (x :: r) with
    | false => have := zks k (textRun (x :: r)).2; simp only [Bool.not_false, cond_true, List.length_cons]; omega
    | true =>
      rw [Bool.not_true, cond_false]
      cases letterB (r[0]?.getD 0) with
      | true =>
        rw [cond_true]
        cases tagS r with
        | none => simp
        | some q =>
          simp only [List.length_cons]
          cases isRawB (tagN r) with
          | true =>
            have := zks k (q.2.2.drop (rawS (tagN r) q.2.2))
            rw [cond_true, List.length_append]
            split <;> simp <;> omega
          | false => have := zks k q.2.2; rw [cond_false]; omega
      | false =>
        rw [cond_false]
        cases decide (r[0]?.getD 0 = 47) && letterB (r.tail[0]?.getD 0) with
        | true =>
          rw [cond_true]
          cases tagS r.tail with
          | none => simp
          | some q => have := zks k q.2.2; simp only [List.length_cons]; omega
        | false =>
          rw [cond_false]
          cases ([60, 33, 45, 45] : List Int).isPrefixOf (x :: r) with
          | true => have := zks k (skipS [45, 45, 62] ((x :: r).drop 4)); rw [cond_true]; omega
          | false => have := zks k (skipS [62] (x :: r)); rw [cond_false]; omega
theorem parse_ok (l : List Int) (hl : l.length ≤ 100000) (hn : 20000000 ≤ n) : BuiltR (zbp n l) := by
  unfold zbp
  rw [zgs l hl (by omega), Option.bind_some]
  have h1 := zks (l.length + 1) l
  have := build_ok (n := n) (tokS (l.length + 1) l) (fun t ht => tok_g (zmu _ l (by omega) t ht)) (by omega) hn
  rcases this with h | h | ⟨p, h, hp⟩
  · rw [h]; exact .inl rfl
  · rw [h]; exact .inr (.inl rfl)
  · rw [h]; exact .inr (.inr ⟨p, rfl, hp⟩)
end
end Go.Proofs.Ytklcdfnhdljkjaa
namespace Go.Proofs.Ytklcdfnhdljkjaa
set_option linter.unusedVariables false
set_option linter.unusedSimpArgs false
open Go.RowKit Go.Sl
set_option maxRecDepth 100000 in
theorem known_true (k : Nat) : zfj (k + 300) = some true := by kernel_rfl
variable {n : Nat}
theorem zpo (hn : 300 ≤ n) : zfj n = some true := by
  obtain ⟨k, rfl⟩ : ∃ k, n = k + 300 := ⟨n - 300, by omega⟩
  exact known_true k
end Go.Proofs.Ytklcdfnhdljkjaa
