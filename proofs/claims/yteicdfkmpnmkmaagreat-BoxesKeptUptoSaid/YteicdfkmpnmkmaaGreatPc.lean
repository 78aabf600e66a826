/-
  Walks and laws of this seat.
-/
import Derived.Test.YteicdfkmpnmkmaaGreatPD
import Derived.Test.YteicdfkmpnmkmaaGreatPb
import Derived.Test.YteicdfkmpnmkmaaGreatM5
import Derived.Test.YteicdfkmpnmkmaaGreatM4
namespace Go.V
set_option linter.unusedVariables false
set_option linter.unusedSimpArgs false
set_option linter.unusedSectionVars false
set_option maxRecDepth 100000
open Go.RowKit Go.Sl
mutual
theorem yft : ∀ (b : BoxT) (n : Int), szT (numB b n).1 = szT b
  | .mk x ks, n => by rw [zrl, zs2, zs2, yfs ks]
theorem yfs : ∀ (l : List BoxT) (n : Int), szL (numL l n).1 = szL l
  | [], n => by rw [zpz]
  | b :: r, n => by rw [zp9, zjr, zjr, yft b, yfs r]
end
theorem szL_take {l : List BoxT} {j : Nat} : szL (l.take j) ≤ szL l := by
  have : szL l = szL (l.take j) + szL (l.drop j) := by rw [← zte, List.take_append_drop]
  omega
theorem szL_at {l : List BoxT} {j : Nat} {x : BoxT} (h : l[j]? = some x) : szL (l.take j) + szT x ≤ szL l := by
  have h1 : szL (l.take (j + 1)) = szL (l.take j) + szT x := by
    rw [List.take_add_one, h, zte]
    show _ + szL [x] = _
    rw [zy1]
  have := szL_take (l := l) (j := j + 1)
  omega
theorem ksmall_T {l : List StyT} (hl : (l.length : Int) ≤ 1000000) : T (fun k _ => ztw k l) fun _ => True := by
  have key : ∀ (m i : Nat), l.length - i ≤ m → i ≤ l.length → T (fun _ n => zee n l (i : Int)) fun _ => True := by
    intro m
    induction m with
    | zero =>
      intro i h1 h2
      refine T.step ?_
      unfold zee
      exact T.dec (fun _ => by omega) fun _ => T.some trivial
    | succ m ih =>
      intro i h1 h2
      by_cases hi : i < l.length
      · have k7 : ∀ (m2 j : Nat) (s : StyT) (b : Bool),4 - j ≤ m2 → j ≤ 4 → T (fun _ n => zac n l (i : Int) s b (j : Int)) fun _ => True := by
          intro m2
          have up : ∀ b : Bool, T (fun _ n => bif (!b) then some false else zee n l (w64 ((i : Int) + 1))) fun _ => True := fun b => by
            rw [show w64 ((i : Int) + 1) = ((i + 1 : Nat) : Int) by rw [w64i (by omega)]; omega]
            exact T.bif (fun _ => T.some trivial) fun _ => ih (i + 1) (by omega) (by omega)
          induction m2 with
          | zero =>
            intro j s b e1 e2
            refine T.step ?_
            unfold zac
            exact T.dec (fun _ => by omega) fun _ => up b
          | succ m2 ih2 =>
            intro j s b e1 e2
            have nx : ∀ (j' : Int) (b : Bool),(j : Int) = j' → j < 4 → T (fun _ n => zac n l (i : Int) s b (w64 (j' + 1))) fun _ => True := fun j' b e hj => by
              rw [← e, show w64 ((j : Int) + 1) = ((j + 1 : Nat) : Int) by rw [w64i (by omega)]; omega]
              exact ih2 (j + 1) s b (by omega) (by omega)
            have one : ∀ (j' : Int) (x y z : LenT) (c : Int),(j : Int) = j' → j < 4 → T (fun _ n => bif b then (zbr x).bind fun r => bif r then (zbr y).bind fun r => bif r then (zbr z).bind fun r => bif r then bif decide (c < 65536) then zac n l (i : Int) s (decide ((-65536) < c)) (w64 (j' + 1)) else zac n l (i : Int) s false (w64 (j' + 1)) else zac n l (i : Int) s false (w64 (j' + 1)) else zac n l (i : Int) s false (w64 (j' + 1)) else zac n l (i : Int) s false (w64 (j' + 1)) else zac n l (i : Int) s false (w64 (j' + 1))) fun _ => True := fun j' x y z c e hj =>
              T.bif (fun _ => T.bind yar fun _ _ => T.bif (fun _ => T.bind yar fun _ _ => T.bif (fun _ => T.bind yar fun _ _ => T.bif (fun _ => T.dec (fun _ => nx _ _ e hj) fun _ => nx _ _ e hj) fun _ => nx _ _ e hj) fun _ => nx _ _ e hj) fun _ => nx _ _ e hj) fun _ => nx _ _ e hj
            refine T.step ?_
            unfold zac
            exact T.dec (fun h4 => T.dec (fun e => one _ _ _ _ _ e (by omega)) fun n3 => T.dec (fun e => one _ _ _ _ _ e (by omega)) fun n2 => T.dec (fun e => one _ _ _ _ _ e (by omega)) fun n1 => T.dec (fun e => one _ _ _ _ _ e (by omega)) fun n0 => by omega) fun _ => up b
        have z : ∀ (s : StyT) (b : Bool), T (fun _ n => zac n l (i : Int) s b 0) fun _ => True := fun s b => k7 _ 0 s b (Nat.le_refl _) (by omega)
        refine T.step ?_
        unfold zee
        refine T.dec (fun hi => T.get (by omega) hi fun r _ => ?_) fun _ => T.some trivial
        exact T.bind yar fun _ _ => T.bif (fun _ => T.bind yar fun _ _ => T.bif (fun _ => T.dec (fun _ => T.dec (fun _ => T.dec (fun _ => z _ _) fun _ => z _ _) fun _ => z _ _) fun _ => z _ _) fun _ => z _ _) fun _ => z _ _
      · refine T.step ?_
        unfold zee
        exact T.dec (fun _ => by omega) fun _ => T.some trivial
  exact T.diag (F := fun _ n => zpa n l) (key _ 0 (Nat.le_refl _) (Nat.zero_le _))
theorem yg3 {b : BoxT} (h : isOut b = true) : isLev b = false := by
  unfold isOut at h
  unfold isLev
  simp only [Bool.or_eq_true, decide_eq_true_eq] at h
  rw [decide_eq_false (by omega), decide_eq_false (by omega), decide_eq_false (by omega)]; rfl
theorem ybq {t : TreT} (ht : TrOK t) (h0 : 0 < t.1.length) (hk : TrK t) {ss : List StyT} (hs : ss.length = t.1.length) : T (fun k _ => ref13_Build k t ss) (· = outP ((buildP isLev kdR t.1 ss t.1.length 0 0 0).map fun b => (numB b 0).1)) := by
  have := yem ht hk hs t.1.length 0 0 0 (Nat.le_refl _) h0 (Int.le_refl _) (Int.le_refl _)
  unfold ref13_Build Go.Proofs.YteicdfkmpnmkmaaGreat.ref13_Build
  refine T.bindE this ?_
  cases hb : buildP isLev kdR t.1 ss t.1.length 0 0 0 with
  | none => exact T.some rfl
  | some b =>
    have hI := zph ht hk (fun b => yg3) h0 (e := t.1.length) (fun y hy => by
      obtain ⟨h1, r, hr⟩ := hy.pos
      have := (List.getElem?_eq_some_iff.1 hr).1
      omega) (by omega) hb
    have hn : (ndT b).Nodup := hI.srt.imp fun h e => by omega
    have ha : apartB b = true := decide_eq_true (ky_T b hI.gd hn).1
    show T (fun _ _ => bif apartB b then _ else _) _
    rw [ha]
    exact T.some rfl
end Go.V
namespace Go.V
set_option linter.unusedVariables false
set_option linter.unusedSimpArgs false
set_option linter.unusedSectionVars false
set_option maxRecDepth 100000
open Go.RowKit Go.Sl
theorem yd6 {α : Type} {k k' : ByteArray} {v : α} : ∀ {m : List (ByteArray × α)}, k' ≠ k → mgetM (mputM m k v) k' = mgetM m k'
  | [], h => by simp [mputM, mgetM, Ne.symm h]
  | p :: m, h => by
    unfold mputM
    split
    · rename_i e
      simp [mgetM, e, Ne.symm h]
    · have := yd6 (k := k) (v := v) (m := m) h
      unfold mgetM at this ⊢
      simp only [List.find?_cons]
      split
      · rfl
      · exact this
open Go.Proofs.YteicdfkmpnmkmaaGreat (zbm zhv zm2)
theorem alone_TE {r : NodT} (h : PlainOK r) : T (fun k _ => dom_alone k r) (· = true) := by
  refine T.fst (F := fun k => dom_alone k r) ?_ fun _ _ => rfl
  rcases h with ⟨h1, h2, h3, h4, h5, h6⟩ | ⟨h1, h2, h3, h4, h5, h6⟩
  · have e : ∀ n, dom_alone n r = zbm r n [] 0 := fun n => by
      show Go.Proofs.YteicdfkmpnmkmaaGreat.dom_alone n r = _
      unfold Go.Proofs.YteicdfkmpnmkmaaGreat.dom_alone
      rw [h1]
      simp [h2, h3]
      rw [decide_eq_false (by omega)]; rfl
    have key : ∀ (m : Nat) (j : Nat) (y : List (ByteArray × Int)), r.2.2.2.1.length - j ≤ m → j ≤ r.2.2.2.1.length → (∀ x, mgetM y x ≠ none → ∃ (j' : Nat) (a : AttT), j' < j ∧ r.2.2.2.1[j']? = some a ∧ a.1 = x) → T (fun _ n => zbm r n y j) (· = true) := by
      intro m
      induction m with
      | zero =>
        intro j y hm hj hy
        refine T.step ?_
        unfold zbm
        exact T.dec (fun _ => by omega) fun _ => T.some rfl
      | succ m ih =>
        intro j y hm hj hy
        refine T.step ?_
        unfold zbm
        refine T.dec (fun hl => T.get (by omega) (by omega) fun a ha => ?_) fun _ => T.some rfl
        have ha : r.2.2.2.1[j]? = some a := by simpa using ha
        have hn : mgetM y a.1 = none := Classical.byContradiction fun hc => by
          obtain ⟨j', b, hj', hb, e⟩ := hy _ hc
          have hl' := (List.getElem?_eq_some_iff.1 ha).1
          have := List.pairwise_iff_getElem.1 h6 j' j (by omega) hl' hj'
          rw [(List.getElem?_eq_some_iff.1 hb).2,(List.getElem?_eq_some_iff.1 ha).2] at this
          exact this e
        refine T.dec (fun e0 => absurd e0 (h5 a (List.mem_of_getElem? ha))) fun _ => ?_
        unfold zhv
        rw [hn]
        show T (fun _ n => zbm r n (mputM y a.1 _) _) _
        have e1 : w64 ((j : Int) + 1) = ((j + 1 : Nat) : Int) := by rw [w64i (by omega)]; omega
        rw [e1]
        refine ih (j + 1) _ (by omega) (by omega) fun x hx => ?_
        by_cases e : x = a.1
        · exact ⟨j, a, by omega, ha, e.symm⟩
        · rw [yd6 e] at hx
          obtain ⟨j', b, hj', hb, e⟩ := hy _ hx
          exact ⟨j', b, by omega, hb, e⟩
    have := key _ 0 [] (Nat.le_refl _) (by omega) (fun x hx => by simp [mgetM] at hx)
    exact (T.diag (F := fun _ n => zbm r n [] 0) this).fst fun k _ => (e k)
  · refine ⟨true, rfl,0, fun k _ _ _ => ?_⟩
    show Go.Proofs.YteicdfkmpnmkmaaGreat.dom_alone k r = _
    unfold Go.Proofs.YteicdfkmpnmkmaaGreat.dom_alone
    rw [h1]
    simp [h2, h3, h4, h5, h6]
theorem IsMax.eq {S : Int → Prop} {x y : Int} (h : IsMax S x) (g : IsMax S y) : x = y := by
  rcases h with ⟨h1, h2⟩ | ⟨h1, h2, h3⟩ <;> rcases g with ⟨g1, g2⟩ | ⟨g1, g2, g3⟩
  · omega
  · exact absurd g2 (h2 _)
  · exact absurd h2 (g2 _)
  · have := h3 _ g2; have := g3 _ h2; omega
section
variable {t : TreT} (ht : TrOK t) (hk : TrK t)
include ht
theorem zmr {c j : Int} (h : KidOf t.1 c j) : 0 ≤ j ∧ j < c ∧ c < t.1.length := by
  obtain ⟨h0, r, hr, rfl⟩ := h
  have h1 := ht.par _ r hr
  have h2 := ht.par0 c.toNat r (by omega) hr
  have h3 := (List.getElem?_eq_some_iff.1 hr).1
  omega
theorem up_lt {y a : Int} (h : UpR t.1 y a) : 0 ≤ a ∧ a < y ∧ y < t.1.length := by
  induction h with
  | one h0 h => exact zmr ht ⟨h0, _, h, rfl⟩
  | more h0 h g ih => have := zmr ht ⟨h0, _, h, rfl⟩; omega
theorem up_kid {y a : Int} (h : UpR t.1 y a) : ∃ x,(x = y ∨ UpR t.1 y x) ∧ KidOf t.1 x a := by
  induction h with
  | @one y r h0 h => exact ⟨y, .inl rfl, h0, r, h, rfl⟩
  | @more y a r h0 h g ih =>
    obtain ⟨x, hx, hk⟩ := ih
    refine ⟨x, .inr ?_, hk⟩
    rcases hx with rfl | hx
    · exact .one h0 h
    · exact .more h0 h hx
include hk
theorem yfn : ∀ (m : Nat) (y z q : Int), y.toNat ≤ m → KidOf t.1 z q → q < y → y < z → UpR t.1 y q := by
  intro m
  induction m with
  | zero => intro y z q h1 h2 h3 h4; have := zmr ht h2; omega
  | succ m ih =>
    intro y z q h1 h2 h3 h4
    have h5 := zmr ht h2
    obtain ⟨r, hr⟩ : ∃ r, t.1[y.toNat]? = some r := ⟨_, List.getElem?_eq_getElem (by omega)⟩
    have hky : KidOf t.1 y r.2.2.2.2.1 := ⟨by omega, r, hr, rfl⟩
    have h6 := zmr ht hky
    by_cases e : r.2.2.2.2.1 = q
    · rw [← e]; exact .one (by omega) hr
    by_cases c : q < r.2.2.2.2.1
    · exact .more (by omega) hr (ih _ z q (by omega) h2 c (by omega))
    exfalso
    have hup := ih q y r.2.2.2.2.1 (by omega) hky (by omega) h3
    obtain ⟨x, hx, hkx⟩ := up_kid ht hup
    have hzx : UpR t.1 z x := by
      obtain ⟨z0, rz, hrz, rfl⟩ := h2
      rcases hx with rfl | hx
      · exact .one z0 hrz
      · exact .more z0 hrz hx
    have hxy : x < y := by
      rcases hx with rfl | hx
      · omega
      · have := up_lt ht hx; omega
    have h7 := zmr ht hkx
    obtain ⟨rx, hrx⟩ : ∃ r, t.1[x.toNat]? = some r := ⟨_, List.getElem?_eq_getElem (by omega)⟩
    have hpx : rx.2.2.2.2.1 = r.2.2.2.2.1 := by
      obtain ⟨_, r', hr', e⟩ := hkx
      rw [hrx] at hr'; cases hr'; exact e
    have hn := (hk.kn _ _ hrx).nx
    rw [hpx, Int.toNat_of_nonneg (by omega)] at hn
    have hd := ht.doc _ _ hzx _ hrx
    rcases hn with ⟨_, hn⟩ | ⟨_, _, hn⟩
    · exact hn y ⟨hky, hxy, by omega⟩
    · have := hn y ⟨hky, hxy, by omega⟩
      omega
theorem par_up {i p : Int} (h : KidOf t.1 i p) : p = i - 1 ∨ UpR t.1 (i - 1) p := by
  have := zmr ht h
  by_cases e : p = i - 1
  · exact .inl e
  · exact .inr (yfn ht hk _ _ i p (Nat.le_refl _) h (by omega) (by omega))
end
def Ls (ns : List NodT) (v : List Int) (b i : Int) : Prop := v.length = ns.length ∧ ∀ (j : Nat) x,(j : Int) < b → v[j]? = some x → IsMax (fun c => KidOf ns c j ∧ c < i) x
structure Op (ns : List NodT) (st : List Int) (i : Int) : Prop where
  srt : st.Pairwise (· < ·)
  rng : ∀ x ∈ st,0 ≤ x ∧ x < i
  all : ∀ x r,0 ≤ x → (x = i - 1 ∨ UpR ns (i - 1) x) → ns[x.toNat]? = some r → r.1 = 1 → x ∈ st
  len : (st.length : Int) ≤ i
section
variable {t : TreT} (ht : TrOK t) (hk : TrK t)
include ht hk
theorem zxp {v : List Int} (hv : Ls t.1 v t.1.length t.1.length) : ∀ (m i : Nat), t.1.length - i ≤ m → T (fun k n => zce k n t v t.1 (t.1.length : Int) i) (· = true) := by
  have hl := ht.len
  intro m
  induction m with
  | zero =>
    intro i h1
    refine T.step ?_
    unfold zce
    exact T.dec (fun _ => by omega) fun _ => T.some rfl
  | succ m ih =>
    intro i h1
    refine T.step ?_
    unfold zce
    refine T.dec (fun hi => ?_) fun _ => T.some rfl
    have hvi : (i : Int) < v.length := by rw [hv.1]; exact hi
    obtain ⟨r, hr⟩ : ∃ r, t.1[i]? = some r := ⟨_, List.getElem?_eq_getElem (by omega)⟩
    obtain ⟨x, hx⟩ : ∃ r, v[i]? = some r := ⟨_, List.getElem?_eq_getElem (by omega)⟩
    have kn := hk.kn i r hr
    have hm := hv.2 i x hi hx
    have e1 : r.2.2.2.2.2.2.1 = x := kn.ls.eq hm
    have nx : T (fun k n => zce k n t v t.1 (t.1.length : Int) (w64 ((i : Int) + 1))) (· = true) := by
      have e : w64 ((i : Int) + 1) = ((i + 1 : Nat) : Int) := by rw [w64i (by omega)]; omega
      rw [e]; exact ih (i + 1) (by omega)
    refine T.get (by omega) hi fun r0 hr0 => T.get (by omega) hvi fun x1 hx1 => ?_
    obtain rfl : r = r0 := by simpa [hr] using hr0
    obtain rfl : x = x1 := by simpa [hx] using hx1
    refine T.dec (fun hc => absurd e1 hc) fun _ => T.get (by omega) hvi fun x2 hx2 => ?_
    obtain rfl : x = x2 := by simpa [hx] using hx2
    refine T.dec (fun hn => T.dec (fun hc => ?_) fun _ => T.get (by omega) hvi fun x3 hx3 => T.dec (fun hc => ?_) fun _ => nx) fun hn => T.get (by omega) hvi fun x3 hx3 => ?_
    · rcases kn.fs with ⟨h, _⟩ | ⟨_, h, _⟩
      · exact absurd h hc
      · rcases hm with ⟨_, h2⟩ | ⟨h2, _⟩
        · exact absurd h (h2 _)
        · omega
    · obtain rfl : x = x3 := by simpa [hx] using hx3
      exact absurd hn hc
    · obtain rfl : x = x3 := by simpa [hx] using hx3
      refine T.dec (fun _ => T.get (by omega) hvi fun x4 hx4 => ?_) fun hc => absurd hn hc
      obtain rfl : x = x4 := by simpa [hx] using hx4
      rcases hm with ⟨h2, _⟩ | ⟨h2, h3, h4⟩
      · exact absurd h2 hn
      refine T.get h2 (by have := h3.2; omega) fun q hq => T.dec (fun hc => ?_) fun _ => nx
      have kq := (hk.kn _ q hq).nx
      have hp : q.2.2.2.2.1 = i := by
        obtain ⟨⟨_, q', hq', e⟩, _⟩ := h3
        rw [hq] at hq'; cases hq'; exact e
      rw [hp, Int.toNat_of_nonneg h2] at kq
      rcases kq with ⟨h5, _⟩ | ⟨_, h5, _⟩
      · exact absurd h5 hc
      · have := h4 _ ⟨h5.1, h5.2.2⟩
        have := h5.2.1
        omega
theorem yaq {v st : List Int} {i : Nat} {r : NodT} (h0 : 0 < i) (hr : t.1[i]? = some r) (hv : Ls t.1 v (i + 1) i) (hp : r.2.2.2.2.1 ∈ st) (hs : st.Pairwise (· < ·)) (hg : ∀ x ∈ st,0 ≤ x ∧ x < i) (hst : (st.length : Int) ≤ i)
    (ha : ∀ x q,0 ≤ x → (x = r.2.2.2.2.1 ∨ UpR t.1 r.2.2.2.2.1 x) → t.1[x.toNat]? = some q → q.1 = 1 → x ∈ st)
    (nx : ∀ st' v', Op t.1 st' (i + 1 : Nat) → Ls t.1 v' (i + 1 : Nat) (i + 1 : Nat) → T (fun k n => zci k n t st' v' t.1 (t.1.length : Int) ((i + 1 : Nat) : Int)) (· = true)) :
    T (fun k n => zhc k (zci k n) st v r t i t.1 (t.1.length : Int) i) (· = true) := by
  have hl := ht.len
  have hil := (List.getElem?_eq_some_iff.1 hr).1
  have hki : KidOf t.1 i r.2.2.2.2.1 := ⟨by omega, r, by simpa using hr, rfl⟩
  have hlt := zmr ht hki
  have hvl : (r.2.2.2.2.1 : Int) < v.length := by rw [hv.1]; omega
  obtain ⟨p, hpe⟩ : ∃ p : Nat, r.2.2.2.2.1 = p := ⟨r.2.2.2.2.1.toNat, by omega⟩
  obtain ⟨x, hx⟩ : ∃ x, v[p]? = some x := ⟨_, List.getElem?_eq_getElem (by omega)⟩
  have hm := hv.2 p x (by omega) hx
  have kn := hk.kn i r hr
  have e1 : r.2.2.2.2.2.2.2.1 = x := by
    have := kn.pv
    rw [hpe] at this
    exact this.eq hm
  have e : w64 ((i : Int) + 1) = ((i + 1 : Nat) : Int) := by rw [w64i (by omega)]; omega
  have hv' : Ls t.1 (v.set p i) (i + 1 : Nat) (i + 1 : Nat) := by
    refine ⟨by rw [List.length_set]; exact hv.1, fun j y hj hy => ?_⟩
    rw [List.getElem?_set] at hy
    split at hy
    · rename_i ee
      subst ee
      have hy : y = (i : Int) := by split at hy <;> cases hy; rfl
      subst hy
      refine IsMax.last (S := fun c => KidOf t.1 c p ∧ c < i) (by omega) (fun c => ⟨fun hc => ?_, fun hc => ?_⟩) fun c hc => hc.2
      · by_cases q : c = i
        · exact .inr q
        · exact .inl ⟨hc.1, by have := hc.2; omega⟩
      · rcases hc with hc | rfl
        · exact ⟨hc.1, by have := hc.2; omega⟩
        · exact ⟨hpe ▸ hki, by omega⟩
    · rename_i ee
      refine (hv.2 j y (by omega) hy).congr fun c => ⟨fun hc => ⟨hc.1, by have := hc.2; omega⟩, fun hc => ⟨hc.1, ?_⟩⟩
      by_cases q : c = i
      · subst q
        obtain ⟨_, r', hr', e'⟩ := hc.1
        rw [Int.toNat_natCast, hr] at hr'; cases hr'
        omega
      · have := hc.2; omega
  have k3 : T (fun k n => zdd k (zci k n) v r st i t t.1 (t.1.length : Int) i) (· = true) := by
    unfold zdd
    refine T.get (by omega) hvl fun _ _ => T.get (by omega) hvl fun _ _ => ?_
    rw [e, hpe, Int.toNat_natCast]
    refine T.dec (fun h1 => T.app (by simp; omega) (by simp; omega) (nx _ _ ⟨?_, ?_, ?_, ?_⟩ hv')) fun h1 => nx _ _ ⟨hs, ?_, ?_, ?_⟩ hv'
    · rw [List.pairwise_append]
      exact ⟨hs, by simp, fun a ha b hb => by rw [List.mem_singleton.1 hb]; exact (hg a ha).2⟩
    · intro y hy
      rcases List.mem_append.1 hy with hy | hy
      · have := hg y hy; omega
      · rw [List.mem_singleton.1 hy]; omega
    · intro y q hy0 hy hq hq1
      rcases hy with rfl | hy
      · exact List.mem_append.2 (.inr (by simp))
      · refine List.mem_append.2 (.inl (ha y q hy0 ?_ hq hq1))
        cases hy with
        | one h0 h =>
          have : ((i + 1 : Nat) : Int) - 1 = i := by omega
          rw [this, Int.toNat_natCast, hr] at h; cases h
          exact .inl rfl
        | more h0 h g =>
          have : ((i + 1 : Nat) : Int) - 1 = i := by omega
          rw [this, Int.toNat_natCast, hr] at h; cases h
          exact .inr g
    · simp; omega
    · intro y hy
      have := hg y hy; omega
    · intro y q hy0 hy hq hq1
      have e3 : ((i + 1 : Nat) : Int) - 1 = i := by omega
      rw [e3] at hy
      rcases hy with rfl | hy
      · rw [Int.toNat_natCast, hr] at hq; cases hq
        exact absurd hq1 h1
      · refine ha y q hy0 ?_ hq hq1
        cases hy with
        | one h0 h => rw [Int.toNat_natCast, hr] at h; cases h; exact .inl rfl
        | more h0 h g => rw [Int.toNat_natCast, hr] at h; cases h; exact .inr g
    · omega
  unfold zhc
  refine T.dec (fun hc => ?_) fun _ => T.get (by omega) hvl fun _ _ => T.get (by omega) hvl fun x1 hx1 => ?_
  · have : st = [] := List.eq_nil_of_length_eq_zero (by omega)
    subst this; cases hp
  obtain rfl : x = x1 := by rw [hpe, Int.toNat_natCast, hx] at hx1; cases hx1; rfl
  refine T.dec (fun hc => absurd e1 hc) fun _ => T.dec (fun hn => T.get (by omega) (by omega) fun q hq => T.dec (fun hc => ?_) fun _ => T.dec (fun hc => absurd hn hc) fun _ => k3) fun hn => T.dec (fun _ => ?_) fun _ => k3
  · rw [hpe] at hq
    have kf := (hk.kn _ q (by simpa using hq)).fs
    rcases kf with ⟨_, h⟩ | ⟨h5, h6, h7⟩
    · exact absurd ⟨hpe ▸ hki, by omega⟩ (h (i : Int))
    · rw [e1] at hn
      rcases hm with ⟨_, h2⟩ | ⟨h2, _⟩
      · have := h7 i ⟨hpe ▸ hki, by omega⟩
        by_cases q2 : q.2.2.2.2.2.1 = i
        · exact absurd q2 hc
        · exact absurd ⟨h6.1, by omega⟩ (h2 q.2.2.2.2.2.1)
      · omega
  · rw [e1] at hn ⊢
    rcases hm with ⟨h2, _⟩ | ⟨h2, h3, h4⟩
    · exact absurd h2 hn
    refine T.get h2 (by have := h3.2; omega) fun q hq => T.dec (fun hc => ?_) fun _ => k3
    have kq := (hk.kn _ q hq).nx
    have hp : q.2.2.2.2.1 = p := by
      obtain ⟨⟨_, q', hq', e⟩, _⟩ := h3
      rw [hq] at hq'; cases hq'; exact e
    rw [hp, Int.toNat_of_nonneg h2] at kq
    have hii : KidOf t.1 i p := hpe ▸ hki
    rcases kq with ⟨_, h⟩ | ⟨h5, h6, h7⟩
    · exact absurd ⟨hii, h3.2, by omega⟩ (h (i : Int))
    · have := h7 i ⟨hii, h3.2, by omega⟩
      by_cases q2 : q.2.2.2.2.2.2.2.2.1 = i
      · exact absurd q2 hc
      · have := h4 _ ⟨h6.1, by omega⟩
        have := h6.2.1
        omega
theorem yg2 : ∀ (m i : Nat) (st v : List Int), t.1.length - i ≤ m → Op t.1 st i → Ls t.1 v i i → T (fun k n => zci k n t st v t.1 (t.1.length : Int) i) (· = true) := by
  have hl := ht.len
  intro m
  induction m with
  | zero =>
    intro i st v h1 h2 h3
    refine T.step ?_
    unfold zci
    refine T.dec (fun _ => by omega) fun hi => ?_
    refine zxp ht hk (v := v) ⟨h3.1, fun j x hj hx => ?_⟩ _ 0 (Nat.le_refl _)
    refine (h3.2 j x (by omega) hx).congr fun c => ⟨fun hc => ⟨hc.1,(zmr ht hc.1).2.2⟩, fun hc => ⟨hc.1, by have := hc.2; omega⟩⟩
  | succ m ih =>
    intro i st v h1 h2 h3
    refine T.step ?_
    unfold zci
    refine T.dec (fun hi => ?_) fun hi => ?_
    · have hvi : (i : Int) < v.length := by rw [h3.1]; exact hi
      refine T.get (by omega) hi fun r hr => T.get (by omega) hvi fun _ _ => T.get (by omega) hvi fun _ _ => ?_
      have hr : t.1[i]? = some r := by simpa using hr
      refine T.bindE (alone_TE (hk.pl i r hr)) (T.bif (fun h => by cases h) fun _ => ?_)
      rw [Int.toNat_natCast]
      have hv' : Ls t.1 (v.set i (-1)) (i + 1) i := by
        refine ⟨by rw [List.length_set]; exact h3.1, fun j y hj hy => ?_⟩
        rw [List.getElem?_set] at hy
        split at hy
        · rename_i ee
          subst ee
          have hy : y = -1 := by split at hy <;> cases hy; rfl
          exact .inl ⟨hy, fun c hc => by have := zmr ht hc.1; have := hc.2; omega⟩
        · exact h3.2 j y (by omega) hy
      have e : w64 ((i : Int) + 1) = ((i + 1 : Nat) : Int) := by rw [w64i (by omega)]; omega
      refine T.dec (fun hz => ?_) fun hz => ?_
      · obtain rfl : i = 0 := by omega
        have : st = [] := List.eq_nil_of_length_eq_zero (by have := h2.len; omega)
        subst this
        refine T.app (by simp) (by simp) ?_
        rw [e]
        refine ih _ _ _ (by omega) ⟨by simp, fun x hx => by simp at hx; omega, fun x r h0 hx hr h1 => ?_, by simp⟩ ⟨hv'.1, fun j y hj hy => ?_⟩
        · rcases hx with rfl | hx
          · simp
          · have := hx.pos; omega
        · refine (hv'.2 j y (by omega) hy).congr fun c => ⟨fun hc => ⟨hc.1, by have := hc.2; omega⟩, fun hc => ⟨hc.1, ?_⟩⟩
          have := hc.1.1; have := hc.2; omega
      · have hki : KidOf t.1 i r.2.2.2.2.1 := ⟨by omega, r, by simpa using hr, rfl⟩
        have hlt := zmr ht hki
        obtain ⟨q, hq⟩ : ∃ q, t.1[r.2.2.2.2.1.toNat]? = some q := ⟨_, List.getElem?_eq_getElem (by omega)⟩
        have hq1 := hk.el i r q (by omega) hr hq
        have hup := par_up ht hk hki
        have key : ∀ (m2 : Nat) (s : List Int), s.length ≤ m2 → (s.length : Int) ≤ i → s.Pairwise (· < ·) → (∀ x ∈ s,0 ≤ x ∧ x < i) → r.2.2.2.2.1 ∈ s → (∀ x q,0 ≤ x → (x = r.2.2.2.2.1 ∨ UpR t.1 r.2.2.2.2.1 x) → t.1[x.toNat]? = some q → q.1 = 1 → x ∈ s) → T (fun k n => zic k n t s (v.set i (-1)) i r t.1 (t.1.length : Int) i) (· = true) := by
          intro m2
          induction m2 with
          | zero =>
            intro s g1 g2 g3 g4 g5 g6
            have : s = [] := List.eq_nil_of_length_eq_zero (by omega)
            subst this; cases g5
          | succ m2 ih2 =>
            intro s g1 g2 g3 g4 g5 g6
            refine T.step ?_
            unfold zic
            have k0 := yaq ht hk (by omega) hr hv' g5 g3 g4 g2 g6 fun st' v' a b => ih (i + 1) st' v' (by omega) a b
            refine T.dec (fun hs => ?_) fun _ => k0
            rw [w64i (by omega)]
            refine T.get (by omega) (by omega) fun _ _ => T.get (by omega) (by omega) fun z hz => T.dec (fun hne => T.cut (by omega) (by omega) (by omega) fun s' hs' hl' => ?_) fun _ => k0
            obtain ⟨s0, z0, rfl⟩ : ∃ s0 z0, s = s0 ++ [z0] := by
              rcases List.eq_nil_or_concat s with rfl | ⟨a, b, e⟩
              · cases g5
              · exact ⟨a, b, by simpa using e⟩
            have e1 : (((s0 ++ [z0]).length : Int) - 1).toNat = s0.length := by simp
            rw [e1] at hz hs'
            obtain rfl : z0 = z := by simpa using hz
            obtain rfl : s' = s0 := by simpa using hs'
            have g3' := List.pairwise_append.1 g3
            have hps : r.2.2.2.2.1 ∈ s' := by
              rcases List.mem_append.1 g5 with h | h
              · exact h
              · exact absurd (List.mem_singleton.1 h).symm hne
            have hpz := g3'.2.2 _ hps z0 (by simp)
            refine ih2 s' (by simp at g1; omega) (by simp at g2; omega) g3'.1 (fun x hx => g4 x (by simp [hx])) hps fun x q h0 hx hq h1 => ?_
            have := g6 x q h0 hx hq h1
            rcases List.mem_append.1 this with h | h
            · exact h
            · have hxz := List.mem_singleton.1 h
              rcases hx with rfl | hx
              · omega
              · have := up_lt ht hx; omega
        refine key _ st (Nat.le_refl _) h2.len h2.srt h2.rng ?_ fun x q h0 hx hq h1 => h2.all x q h0 ?_ hq h1
        · exact h2.all _ q (by omega) (hup.imp id id) hq hq1
        · rcases hx with rfl | hx
          · exact hup.imp id id
          · rcases hup with e | hu
            · rw [← e]; exact .inr hx
            · refine .inr ?_
              clear key
              generalize (i : Int) - 1 = y at hu
              generalize r.2.2.2.2.1 = p at hu hx
              induction hu with
              | one h0 h => exact .more h0 h hx
              | more h0 h g ih3 => exact .more h0 h (ih3 hx)
    · refine zxp ht hk (v := v) ⟨h3.1, fun j x hj hx => ?_⟩ _ 0 (Nat.le_refl _)
      refine (h3.2 j x (by omega) hx).congr fun c => ⟨fun hc => ⟨hc.1,(zmr ht hc.1).2.2⟩, fun hc => ⟨hc.1, by have := hc.2; omega⟩⟩
theorem yg1 (h0 : 0 < t.1.length) : T (fun k _ => ztz k t) (· = true) := by
  have hl := ht.len
  refine T.diag (F := fun k n => zm1 k n t) ?_
  unfold zm1
  refine T.get (by omega) (by omega) fun r hr => ?_
  obtain ⟨h1, h2, h3, h4⟩ := hk.rt r hr
  refine T.dec (fun h => absurd h1 h) fun _ => T.dec (fun h => absurd h2 h) fun _ => T.dec (fun h => absurd h3 h) fun _ => T.dec (fun h => absurd h4 h) fun _ => T.rep (by omega) (by omega) (by omega) fun v hv hvl => ?_
  refine yg2 ht hk _ 0 [] v (Nat.le_refl _) ⟨by simp, by simp, fun x q h0 hx hq h1 => ?_, by simp⟩ ⟨by omega, fun j x hj => by omega⟩
  rcases hx with rfl | hx
  · omega
  · have := hx.pos; omega
theorem Dp.one {y : Int} {d d' : Nat} (h : Dp t.1 y d) (g : Dp t.1 y d') : d = d' := by
  induction h generalizing d' with
  | root =>
    cases g with
    | root => rfl
    | kid h0 h g => omega
  | @kid y r d h0 h g ih =>
    generalize hy : y = z at g
    cases g with
    | root => omega
    | kid h0' h' g' =>
      subst hy
      rw [h] at h'; cases h'
      rw [ih g']
theorem ycc (h0 : 0 < t.1.length) : T (fun k _ => zw7 k t) (· = 0) := by
  have hl := ht.len
  have hb := hk.big
  have key : ∀ (m i : Nat) (v : List Int), t.1.length - i ≤ m → v.length = t.1.length → (∀ (j d : Nat) x, j < i → v[j]? = some x → Dp t.1 j d → x = d) → T (fun k n => zfv k n v t.1 (t.1.length : Int) i) (· = 0) := by
    intro m
    induction m with
    | zero =>
      intro i v h1 h2 h3
      refine T.step ?_
      unfold zfv
      exact T.dec (fun _ => by omega) fun _ => T.some rfl
    | succ m ih =>
      intro i v h1 h2 h3
      refine T.step ?_
      unfold zfv
      refine T.dec (fun hi => ?_) fun _ => T.some rfl
      refine T.get (by omega) hi fun r hr => T.get (by omega) (by omega) fun _ _ => T.get (by omega) (by omega) fun _ _ => ?_
      have hr : t.1[i]? = some r := by simpa using hr
      rw [Int.toNat_natCast]
      have e : w64 ((i : Int) + 1) = ((i + 1 : Nat) : Int) := by rw [w64i (by omega)]; omega
      obtain ⟨d, hd, hd2⟩ := hk.dp i (by omega)
      have nx : ∀ w : List Int, w.length = t.1.length → (∀ (j : Nat) x, j < i → w[j]? = some x → v[j]? = some x) → w[i]? = some (d : Int) → T (fun k n => zj9 k (zfv k n) w i t.1 (t.1.length : Int)) (· = 0) := by
        intro w hw hw2 hw3
        unfold zj9
        refine T.get (by omega) (by omega) fun _ _ => T.get (by omega) (by omega) fun x hx => ?_
        obtain rfl : (d : Int) = x := by simpa [hw3] using hx
        refine T.dec (fun hc => by omega) fun _ => ?_
        rw [e]
        refine ih (i + 1) w (by omega) hw fun j d' x hj hxx hd' => ?_
        by_cases q : j = i
        · subst q
          rw [hw3] at hxx; cases hxx
          rw [Dp.one ht hk hd hd']
        · exact h3 j d' x (by omega) (hw2 j x (by omega) hxx) hd'
      refine T.dec (fun hz => ?_) fun hz => ?_
      · have hki : KidOf t.1 i r.2.2.2.2.1 := ⟨by omega, r, by simpa using hr, rfl⟩
        have hlt := zmr ht hki
        refine T.get (by omega) (by simp; omega) fun _ _ => T.get (by omega) (by simp; omega) fun x hx => T.get (by omega) (by simp; omega) fun _ _ => T.get (by omega) (by simp; omega) fun _ _ => ?_
        obtain ⟨d0, hd0, rfl⟩ : ∃ d0, Dp t.1 r.2.2.2.2.1 d0 ∧ d = d0 + 1 := by
          generalize hy : (i : Int) = y at hd
          cases hd with
          | root => omega
          | kid a b c =>
            subst hy
            rw [Int.toNat_natCast, hr] at b; cases b
            exact ⟨_, c, rfl⟩
        have hx' : v[r.2.2.2.2.1.toNat]? = some x := by
          rw [List.getElem?_set, if_neg (by omega)] at hx; exact hx
        have := h3 r.2.2.2.2.1.toNat d0 x (by omega) hx' (by rw [Int.toNat_of_nonneg (by omega)]; exact hd0)
        subst this
        rw [w64i (i := (d0 : Int) + 1) (by omega)]
        refine nx _ (by simp [h2]) (fun j x hj hx => ?_) ?_
        · rw [List.getElem?_set, if_neg (by omega), List.getElem?_set, if_neg (by omega)] at hx; exact hx
        · rw [List.getElem?_set, if_pos rfl, if_pos (by simp; omega)]; rfl
      · obtain rfl : i = 0 := by omega
        refine nx _ (by simp [h2]) (fun j x hj => by omega) ?_
        rw [List.getElem?_set, if_pos rfl, if_pos (by omega)]
        cases hd with
        | root => rfl
        | kid a b c => omega
  refine T.diag (F := fun k n => znm k n t) ?_
  unfold znm
  refine T.dec (fun _ => by omega) fun _ => T.dec (fun _ => by omega) fun _ => T.bindE (yg1 ht hk h0) (T.bif (fun h => by cases h) fun _ => T.rep (by omega) (by omega) (by omega) fun v hv hvl => ?_)
  exact key _ 0 v (Nat.le_refl _) (by omega) fun j d x hj => by omega
end
end Go.V
