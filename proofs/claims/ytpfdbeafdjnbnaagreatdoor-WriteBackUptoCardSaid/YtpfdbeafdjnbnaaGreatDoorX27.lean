/-
  Walks and laws of this seat.
-/
import Derived.Test.YtpfdbeafdjnbnaaGreatDoorX26
namespace Go.Proofs.YtpfdbeafdjnbnaaGreatDoor
set_option linter.unusedVariables false
set_option linter.unusedSimpArgs false
set_option linter.unusedSectionVars false
section
open Go.RowKit Go.Sl
section
variable (ns : List zae)
def opn (i : Nat) : List Int := if (nd ns i).Kind = 1 then row ns i else (row ns i).tail
theorem zlm (p : Int) : ∀ l : List Int, p ∉ l → pop p l = []
  | [], _ => rfl
  | x :: l, h => by
    simp only [List.mem_cons, not_or] at h
    unfold pop
    rw [List.dropWhile_cons, if_pos (by simpa using fun e => h.1 e.symm)]
    exact zlm p l h.2
theorem zjy {p x : Int} (l : List Int) (h : x ≠ p) : pop p (x :: l) = pop p l := by
  unfold pop
  rw [List.dropWhile_cons, if_pos (by simpa using h)]
theorem zsa (p : Int) (l : List Int) : pop p (p :: l) = p :: l := by
  unfold pop
  rw [List.dropWhile_cons, if_neg (by simp)]
theorem opn_pop {i : Nat} (h : good ns i) : (okS ns i ∧ pop (par ns (i + 1)) (opn ns i) = pop (par ns (i + 1)) (row ns i)) ∨ (¬ okS ns i ∧ pop (par ns (i + 1)) (opn ns i) = []) := by
  obtain ⟨tl, h1, h2, _⟩ := good.inv ns h
  unfold opn
  by_cases hk : (nd ns i).Kind = 1
  · rw [if_pos hk]
    by_cases h0 : pop (par ns (i + 1)) (row ns i) = []
    · exact .inr ⟨fun ho => ho.1 h0, h0⟩
    · refine .inl ⟨⟨h0, ?_⟩, rfl⟩
      rcases zkn (par ns (i + 1)) (row ns i) with h4 | ⟨l', tl', h4, h5⟩
      · exact absurd h4 h0
      · have hm : par ns (i + 1) ∈ row ns i := by rw [h4, h5]; simp
        rw [h1] at hm
        rcases List.mem_cons.1 hm with e | e
        · rw [e]; simpa using hk
        · obtain ⟨q, e1, _, e3⟩ := h2 _ e
          rw [e1]; simpa using e3
  · rw [if_neg hk, h1, List.tail_cons]
    by_cases hp : par ns (i + 1) = i
    · right
      refine ⟨fun ho => hk ?_, zlm _ _ fun hm => ?_⟩
      · have := ho.2
        rw [hp] at this
        simpa using this
      · obtain ⟨q, e1, e2, _⟩ := h2 _ hm
        omega
    · rw [zjy _ (fun e => hp e.symm)]
      by_cases h0 : pop (par ns (i + 1)) tl = []
      · refine .inr ⟨fun ho => ho.1 ?_, h0⟩
        rw [h1, zjy _ (fun e => hp e.symm)]; exact h0
      · refine .inl ⟨⟨?_, ?_⟩, rfl⟩
        · rw [h1, zjy _ (fun e => hp e.symm)]; exact h0
        · rcases zkn (par ns (i + 1)) tl with h4 | ⟨l', tl', h4, h5⟩
          · exact absurd h4 h0
          · have hm : par ns (i + 1) ∈ tl := by rw [h4, h5]; simp
            obtain ⟨q, e1, _, e3⟩ := h2 _ hm
            rw [e1]; simpa using e3
theorem zl0 (i : Nat) (p : Int) : lastc ns (i + 1) p = if par ns (i + 1) = p then ((i + 1 : Nat) : Int) else lastc ns i p := rfl
theorem zsy {i : Nat} : opn ns (i + 1) = if (nd ns (i + 1)).Kind = 1 then ((i + 1 : Nat) : Int) :: pop (par ns (i + 1)) (row ns i) else pop (par ns (i + 1)) (row ns i) := rfl
theorem zkx : ∀ i,(row ns i).length ≤ i + 1
  | 0 => Nat.le_refl _
  | i + 1 => by
    have := zkx i
    have h2 : (pop (par ns (i + 1)) (row ns i)).length ≤ (row ns i).length := (List.dropWhile_sublist _).length_le
    simp only [row, List.length_cons]
    omega
theorem zoy (i : Nat) : (opn ns i).length ≤ i + 1 := by
  have := zkx ns i
  unfold opn
  split
  · exact this
  · simp; omega
theorem good.lastc_none : ∀ {i : Nat}, good ns i → ∀ j, i ≤ j → lastc ns i (j : Int) = -1
  | 0, _, _, _ => rfl
  | i + 1, h, j, hj => by
    obtain ⟨q, h1, h2, _⟩ := good.par ns h
    unfold lastc
    rw [if_neg (by omega)]
    exact good.lastc_none h.1 j (by omega)
end
section
variable (ns : List zae)
theorem zp0 (m : Int) (lp : List Int → List Int → Int → Option Bool) (x : zae) (ls : List Int) : ∀ (k : Nat) (L : List Int), L.length < k → L.length ≤ 4097 →
    zd3 ⟨ns⟩ m lp x ls k L.reverse = zhm ⟨ns⟩ m lp x ls (pop x.Parent L).reverse
  | 0, L, h, _ => by omega
  | k + 1,[], h, _ => by
    rw [zd3]
    rfl
  | k + 1, a :: l, h, hl => by
    simp only [List.length_cons] at h hl
    rw [zd3, List.reverse_cons]
    rw [show decide ((0 : Int) < ((l.reverse ++ [a]).length : Int)) = true from by simp, cond_true, zvb _ _ (by simp; omega), Option.bind_some]
    unfold zgy
    by_cases ha : a = x.Parent
    · rw [show decide (a ≠ x.Parent) = false from by simp [ha], cond_false]
      subst ha
      rw [zsa, List.reverse_cons]
    · rw [show decide (a ≠ x.Parent) = true from by simp [ha], cond_true, zvj _ _ (by simp; omega), Option.bind_some, zp0 m lp x ls k l (by omega) (by omega), zjy _ ha]
theorem par_lt {i j : Nat} (h : good ns i) (h1 : 1 ≤ j) (h2 : j ≤ i) : ∃ q : Nat, par ns j = q ∧ q < j ∧ (nd ns q).Kind = 1 := by
  obtain ⟨c, rfl⟩ : ∃ c, j = c + 1 := ⟨j - 1, by omega⟩
  obtain ⟨q, e1, e2, e3, _⟩ := good.par ns (good.le ns h h2)
  exact ⟨q, e1, by omega, e3⟩
variable (hN : ns.length ≤ 4096)
include hN
theorem zp2 (ls : List Int) (hls : ∀ j, j < ns.length → ls[j]? = some (lastc ns (ns.length - 1) j)) (hr : ∀ j, j < ns.length → lastc ns (ns.length - 1) j ≠ -1 → (lastc ns (ns.length - 1) j).toNat < ns.length ∧ 0 ≤ lastc ns (ns.length - 1) j) :
    ∀ (k m : Nat), ns.length < k + m → m ≤ ns.length → ∃ b, zc2 ⟨ns⟩ ls k (m : Int) = some b ∧ (b = true ↔ ∀ j, m ≤ j → j < ns.length → endP ns j)
  | 0, m, hk, hm => by omega
  | k + 1, m, hk, hm => by
    rw [zc2]
    by_cases h : m < ns.length
    · have hm2 := hls m h
      rw [show decide ((m : Int) < (ns.length : Int)) = true from by simpa using h, cond_true]
      simp only [zbr, zii ns h, hm2, Option.bind_some]
      obtain ⟨b, e1, e2⟩ := zp2 ls hls hr k (m + 1) (by omega) (by omega)
      have bad : ¬ endP ns m → ∃ b, zd9 (m : Int) (zc2 ⟨ns⟩ ls k) true = some b ∧ (b = true ↔ ∀ j, m ≤ j → j < ns.length → endP ns j) := fun hb =>
        ⟨false, rfl, by simp only [Bool.false_eq_true, false_iff]; exact fun hh => hb (hh m (Nat.le_refl _) h)⟩
      have fine : endP ns m → ∃ b, zd9 (m : Int) (zc2 ⟨ns⟩ ls k) false = some b ∧ (b = true ↔ ∀ j, m ≤ j → j < ns.length → endP ns j) := fun hb => by
        refine ⟨b, ?_, ?_⟩
        · unfold zd9
          rw [cond_false, zgb (by omega)]; exact e1
        · rw [e2]
          constructor
          · intro hh j hj hj2
            rcases Nat.eq_or_lt_of_le hj with e | e
            · subst e; exact hb
            · exact hh j e hj2
          · intro hh j hj hj2
            exact hh j (by omega) hj2
      by_cases h1 : (nd ns m).Last = lastc ns (ns.length - 1) m
      · rw [show decide ((nd ns m).Last ≠ lastc ns (ns.length - 1) m) = false from decide_eq_false (not_not_intro h1), cond_false]
        by_cases h2 : lastc ns (ns.length - 1) m = -1
        · rw [decide_eq_true h2, cond_true]
          by_cases h3 : (nd ns m).First = -1
          · rw [show decide ((nd ns m).First ≠ -1) = false from decide_eq_false (not_not_intro h3), cond_false, show decide (lastc ns (ns.length - 1) m ≠ -1) = false from decide_eq_false (not_not_intro h2), cond_false]
            exact fine ⟨h1, fun _ => h3, fun hh => absurd h2 hh⟩
          · rw [show decide ((nd ns m).First ≠ -1) = true from decide_eq_true h3, cond_true]
            exact bad fun hh => h3 (hh.2.1 h2)
        · rw [decide_eq_false h2, cond_false, show decide (lastc ns (ns.length - 1) m ≠ -1) = true from decide_eq_true h2, cond_true]
          obtain ⟨h4, h5⟩ := hr m h h2
          have h6 : geti ns (lastc ns (ns.length - 1) m) = some (nd ns (lastc ns (ns.length - 1) m).toNat) := by
            have : lastc ns (ns.length - 1) m = ((lastc ns (ns.length - 1) m).toNat : Int) := by omega
            rw [this, zbr, Int.toNat_natCast, zii ns h4]
          rw [h6, Option.bind_some]
          by_cases h7 : (nd ns (lastc ns (ns.length - 1) m).toNat).Next = -1
          · rw [show decide ((nd ns (lastc ns (ns.length - 1) m).toNat).Next ≠ -1) = false from decide_eq_false (not_not_intro h7)]
            exact fine ⟨h1, fun hh => absurd hh h2, fun _ => h7⟩
          · rw [show decide ((nd ns (lastc ns (ns.length - 1) m).toNat).Next ≠ -1) = true from decide_eq_true h7]
            exact bad fun hh => h7 (hh.2.2 h2)
      · rw [show decide ((nd ns m).Last ≠ lastc ns (ns.length - 1) m) = true from decide_eq_true h1, cond_true]
        exact bad fun hh => h1 hh.1
    · rw [show decide ((m : Int) < (ns.length : Int)) = false from by simp; omega, cond_false]
      exact ⟨true, rfl, by simp; intro j h1 h2; omega⟩
theorem znw {n : Nat} (hn : 5000 ≤ n) : ∀ (k i : Nat) (ls : List Int), ns.length < k + (i + 1) → i + 1 ≤ ns.length → good ns i → ls.length = ns.length → (∀ j, j ≤ i → ls[j]? = some (lastc ns i j)) →
    ∃ b, zbh n ⟨ns⟩ k (opn ns i).reverse ls ((i + 1 : Nat) : Int) = some b ∧ (b = true ↔ (∀ j, i < j → j < ns.length → aloneP (nd ns j) ∧ okS ns (j - 1) ∧ stepP ns j) ∧ ∀ j, j < ns.length → endP ns j)
  | 0, i, ls, hk, hi, _, _, _ => by omega
  | k + 1, i, ls, hk, hi, hg, hll, hls => by
    rw [zbh]
    by_cases h : i + 1 < ns.length
    · rw [show decide (((i + 1 : Nat) : Int) < (ns.length : Int)) = true from by simp; omega, cond_true]
      have hx := zii ns h
      have hlx : ∃ z, ls[i + 1]? = some z := ⟨_, List.getElem?_eq_getElem (by omega)⟩
      obtain ⟨z, hz⟩ := hlx
      simp only [zbr, hx, hz, Option.bind_some]
      rw [zi0 ls (by omega), Option.bind_some]
      obtain ⟨b, e1, e2⟩ := zn0 (nd ns (i + 1)) (n := n) (by omega)
      rw [e1, Option.bind_some]
      have bad : ¬ (aloneP (nd ns (i + 1)) ∧ okS ns i ∧ stepP ns (i + 1)) → (false = true ↔ (∀ j, i < j → j < ns.length → aloneP (nd ns j) ∧ okS ns (j - 1) ∧ stepP ns j) ∧ ∀ j, j < ns.length → endP ns j) := fun hb => by
        simp only [Bool.false_eq_true, false_iff]
        rintro ⟨hh, _⟩
        exact hb (hh (i + 1) (by omega) h)
      cases b with
      | false =>
        refine ⟨false, rfl, bad fun hh => ?_⟩
        have := e2.2 hh.1
        cases this
      | true =>
        rw [show (!true) = false from rfl, cond_false, show decide (((i + 1 : Nat) : Int) = 0) = false from by simp; omega, cond_false]
        have hal := e2.1 rfl
        rw [zp0 ns _ _ _ _ n (opn ns i) (by have := zoy ns i; omega) (by have := zoy ns i; omega)]
        rcases opn_pop ns hg with ⟨ho, hp⟩ | ⟨ho, hp⟩
        · rw [hp]
          have hg2 : good ns (i + 1) := ⟨hg, ho⟩
          obtain ⟨q, q1, q2, q3, q4⟩ := good.par ns hg2
          -- the pops' rest is not empty
          have hne : (pop (par ns (i + 1)) (row ns i)).reverse.length ≠ 0 := by
            have := ho.1
            rw [List.length_reverse]
            intro e
            exact this (List.eq_nil_of_length_eq_zero e)
          unfold zhm
          rw [show decide (((pop (par ns (i + 1)) (row ns i)).reverse.length : Int) = 0) = false from by simp only [decide_eq_false_iff_not]; omega, cond_false]
          have hq1 : (nd ns (i + 1)).Parent = (q : Int) := q1
          have hlq : (ls.set (i + 1) (-1))[q]? = some (lastc ns i q) := by
            rw [List.getElem?_set_ne (by omega)]
            exact hls q q2
          rw [hq1, zbr, hlq, Option.bind_some]
          have hprev : prevc ns (i + 1) = lastc ns i q := by unfold prevc; rw [q1]; rfl
          -- what goes on, where all is as it should be
          have go : ((nd ns (i + 1)).Prev = prevc ns (i + 1) → stepP ns (i + 1) → ∃ b, ze5 ((i + 1 : Nat) : Int) (zbh n ⟨ns⟩ k) (nd ns (i + 1)) (ls.set (i + 1) (-1)) (pop (par ns (i + 1)) (row ns i)).reverse false = some b ∧ (b = true ↔ (∀ j, i < j → j < ns.length → aloneP (nd ns j) ∧ okS ns (j - 1) ∧ stepP ns j) ∧ ∀ j, j < ns.length → endP ns j)) := by
            intro _ hst
            obtain ⟨b, g1, g2⟩ := znw hn k (i + 1) ((ls.set (i + 1) (-1)).set q ((i + 1 : Nat) : Int)) (by omega) (by omega) hg2 (by simp [hll]) (fun j hj => by
              by_cases hjq : q = j
              · subst hjq
                rw [List.getElem?_set_self (by simp; omega)]
                rw [show lastc ns (i + 1) (q : Int) = ((i + 1 : Nat) : Int) from by rw [zl0, if_pos q1]]
              · rw [List.getElem?_set_ne hjq]
                rw [show lastc ns (i + 1) (j : Int) = lastc ns i j from by rw [zl0, if_neg (by omega)]]
                by_cases hji : j = i + 1
                · subst hji
                  rw [List.getElem?_set_self (by omega), good.lastc_none ns hg _ (by omega)]
                · rw [List.getElem?_set_ne (by omega)]
                  exact hls j (by omega))
            refine ⟨b, ?_, ?_⟩
            · unfold ze5
              rw [cond_false, hq1, zbr, hlq, Option.bind_some, zi0 _ (by simp; omega), Option.bind_some]
              by_cases hkd : (nd ns (i + 1)).Kind = 1
              · rw [decide_eq_true hkd, cond_true, zk9 (by
                  have := zkx ns i
                  have h2 : (pop (par ns (i + 1)) (row ns i)).length ≤ (row ns i).length := (List.dropWhile_sublist _).length_le
                  simp only [List.length_reverse, List.length_singleton]
                  omega), Option.bind_some]
                unfold zfz zfn
                rw [zgb (by omega), ← List.reverse_cons]
                rw [← g1]
                congr 1
                rw [zsy, if_pos hkd]
              · rw [decide_eq_false hkd, cond_false]
                unfold zfz zfn
                rw [zgb (by omega), ← g1]
                congr 1
                rw [zsy, if_neg hkd]
            · rw [g2]
              constructor
              · rintro ⟨hh, he⟩
                refine ⟨fun j hj hj2 => ?_, he⟩
                rcases Nat.eq_or_lt_of_le (show i + 1 ≤ j by omega) with e | e
                · subst e; exact ⟨hal, ho, hst⟩
                · exact hh j e hj2
              · rintro ⟨hh, he⟩
                exact ⟨fun j hj hj2 => hh j (by omega) hj2, he⟩
          have stop : ¬ stepP ns (i + 1) → ∃ b, some false = some b ∧ (b = true ↔ (∀ j, i < j → j < ns.length → aloneP (nd ns j) ∧ okS ns (j - 1) ∧ stepP ns j) ∧ ∀ j, j < ns.length → endP ns j) := fun hb => ⟨false, rfl, bad fun hh => hb hh.2.2⟩
          unfold zhl
          by_cases h1 : (nd ns (i + 1)).Prev = lastc ns i q
          · rw [show decide ((nd ns (i + 1)).Prev ≠ lastc ns i q) = false from decide_eq_false (not_not_intro h1), cond_false]
            by_cases h2 : (nd ns (i + 1)).Prev = -1
            · rw [decide_eq_true h2, cond_true, hq1, zbr, zii ns (by omega), Option.bind_some]
              by_cases h3 : (nd ns q).First = ((i + 1 : Nat) : Int)
              · rw [show decide ((nd ns q).First ≠ ((i + 1 : Nat) : Int)) = false from decide_eq_false (not_not_intro h3), cond_false, show decide ((nd ns (i + 1)).Prev ≠ -1) = false from decide_eq_false (not_not_intro h2), cond_false]
                exact go (by rw [h1, hprev]) ⟨by rw [h1, hprev], fun _ => by rw [q1]; simpa using h3, fun hh => absurd h2 hh⟩
              · rw [show decide ((nd ns q).First ≠ ((i + 1 : Nat) : Int)) = true from decide_eq_true h3, cond_true]
                exact stop fun hh => h3 (by have := hh.2.1 h2; rw [q1] at this; simpa using this)
            · rw [decide_eq_false h2, cond_false, show decide ((nd ns (i + 1)).Prev ≠ -1) = true from decide_eq_true h2, cond_true]
              rcases zfm ns i q with h4 | ⟨c, h4, c1, c2, _⟩
              · rw [h4] at h1; exact absurd h1 h2
              · rw [h1, h4, zbr, zii ns (by omega), Option.bind_some]
                by_cases h3 : (nd ns c).Next = ((i + 1 : Nat) : Int)
                · rw [show decide ((nd ns c).Next ≠ ((i + 1 : Nat) : Int)) = false from decide_eq_false (not_not_intro h3)]
                  exact go (by rw [h1, hprev]) ⟨by rw [h1, hprev], fun hh => absurd hh h2, fun _ => by rw [h1, h4]; simpa using h3⟩
                · rw [show decide ((nd ns c).Next ≠ ((i + 1 : Nat) : Int)) = true from decide_eq_true h3]
                  exact stop fun hh => h3 (by have := hh.2.2 h2; rw [h1, h4] at this; simpa using this)
          · rw [show decide ((nd ns (i + 1)).Prev ≠ lastc ns i q) = true from decide_eq_true h1, cond_true]
            exact stop fun hh => h1 (by rw [hh.1, hprev])
        · rw [hp]
          exact ⟨false, rfl, bad fun hh => ho hh.2.1⟩
    · rw [show decide (((i + 1 : Nat) : Int) < (ns.length : Int)) = false from by simp; omega, cond_false]
      have hlen : ns.length - 1 = i := by omega
      obtain ⟨b, e1, e2⟩ := zp2 ns hN ls (fun j hj => by rw [hlen]; exact hls j (by omega)) (fun j hj hl => by
        rcases zfm ns (ns.length - 1) j with h4 | ⟨c, h4, c1, c2, _⟩
        · exact absurd h4 hl
        · rw [h4]; simp; omega) n 0 (by omega) (by omega)
      refine ⟨b, e1, ?_⟩
      rw [e2]
      constructor
      · intro hh
        exact ⟨fun j h1 h2 => by omega, fun j hj => hh j (by omega) hj⟩
      · rintro ⟨_, hh⟩ j _ hj
        exact hh j hj
def linkedP : Prop := (nd ns 0).Kind = 1 ∧ (nd ns 0).Parent = -1 ∧ (nd ns 0).Prev = -1 ∧ (nd ns 0).Next = -1 ∧ aloneP (nd ns 0) ∧ (∀ j,0 < j → j < ns.length → aloneP (nd ns j) ∧ okS ns (j - 1) ∧ stepP ns j) ∧ ∀ j, j < ns.length → endP ns j
theorem zqa (h0 : 0 < ns.length) {n : Nat} (hn : 5000 ≤ n) : ∃ b, zjr n ⟨ns⟩ = some b ∧ (b = true ↔ linkedP ns) := by
  unfold zjr
  rw [show geti ns (0 : Int) = some (nd ns 0) from by rw [show (0 : Int) = ((0 : Nat) : Int) from rfl, zbr, zii ns h0], Option.bind_some]
  by_cases hr : (nd ns 0).Kind = 1 ∧ (nd ns 0).Parent = -1 ∧ (nd ns 0).Prev = -1 ∧ (nd ns 0).Next = -1
  · obtain ⟨r1, r2, r3, r4⟩ := hr
    rw [show (decide ((nd ns 0).Kind ≠ 1) || (decide ((nd ns 0).Parent ≠ -1) || (decide ((nd ns 0).Prev ≠ -1) || decide ((nd ns 0).Next ≠ -1)))) = false from by simp [r1, r2, r3, r4], cond_false]
    rw [zs7 (by show 8 * ns.length ≤ _ ∧ ns.length ≤ _; omega), Option.bind_some]
    obtain ⟨k, rfl⟩ : ∃ k, n = k + 1 := ⟨n - 1, by omega⟩
    rw [zbh]
    rw [show decide ((0 : Int) < (ns.length : Int)) = true from by simp; omega, cond_true]
    have e0 : (0 : Int) = ((0 : Nat) : Int) := rfl
    rw [show geti ns (0 : Int) = some (nd ns 0) from by rw [e0, zbr, zii ns h0], Option.bind_some]
    rw [show geti (List.replicate ns.length (0 : Int)) (0 : Int) = some 0 from by rw [e0, zbr]; simp [h0], Option.bind_some]
    rw [show seti (List.replicate ns.length (0 : Int)) (0 : Int) (-1) = some ((List.replicate ns.length (0 : Int)).set 0 (-1)) from by rw [e0, zi0 _ (by simpa using h0)], Option.bind_some]
    obtain ⟨b, e1, e2⟩ := zn0 (nd ns 0) (n := k + 1) (by omega)
    rw [e1, Option.bind_some]
    cases b with
    | false =>
      refine ⟨false, rfl, ?_⟩
      simp only [Bool.false_eq_true, false_iff]
      intro hh
      have := e2.2 hh.2.2.2.2.1
      cases this
    | true =>
      rw [show (!true) = false from rfl, cond_false, show decide ((0 : Int) = 0) = true from rfl, cond_true, zk9 (by simp), Option.bind_some]
      unfold zfn
      obtain ⟨b, g1, g2⟩ := znw ns hN (n := k + 1) hn k 0 ((List.replicate ns.length (0 : Int)).set 0 (-1)) (by omega) (by omega) r1 (by simp) (fun j hj => by
        have : j = 0 := by omega
        subst this
        rw [List.getElem?_set_self (by simpa using h0)]; rfl)
      refine ⟨b, ?_, ?_⟩
      · rw [← g1]
        have : (opn ns 0).reverse = [] ++ [0] := by unfold opn; rw [if_pos r1]; rfl
        rw [this]; rfl
      · rw [g2]
        unfold linkedP
        constructor
        · rintro ⟨h1, h2⟩
          exact ⟨r1, r2, r3, r4, e2.1 rfl, h1, h2⟩
        · rintro ⟨_, _, _, _, _, h1, h2⟩
          exact ⟨h1, h2⟩
  · refine ⟨false, ?_, ?_⟩
    · rw [show (decide ((nd ns 0).Kind ≠ 1) || (decide ((nd ns 0).Parent ≠ -1) || (decide ((nd ns 0).Prev ≠ -1) || decide ((nd ns 0).Next ≠ -1)))) = true from ?_, cond_true]
      simp only [Bool.or_eq_true, decide_eq_true_eq]
      by_cases r1 : (nd ns 0).Kind = 1
      · by_cases r2 : (nd ns 0).Parent = -1
        · by_cases r3 : (nd ns 0).Prev = -1
          · exact .inr (.inr (.inr fun r4 => hr ⟨r1, r2, r3, r4⟩))
          · exact .inr (.inr (.inl r3))
        · exact .inr (.inl r2)
      · exact .inl r1
    · simp only [Bool.false_eq_true, false_iff]
      intro hh
      exact hr ⟨hh.1, hh.2.1, hh.2.2.1, hh.2.2.2.1⟩
end
end
section
open Go.RowKit Go.Sl
section
variable (ns : List zae)
def deepP : Prop := ∃ j, j < ns.length ∧ 256 < (row ns j).length
theorem zp8 (hN : ns.length ≤ 4096) (hg : good ns (ns.length - 1)) : ∀ (k m : Nat) (ds : List Int), ns.length < k + m → m ≤ ns.length → ds.length = ns.length → (∀ j, j < m → ds[j]? = some ((row ns j).length : Int)) →
    (zdd ⟨ns⟩ k ds (m : Int) = some 5 ∧ ∃ j, m ≤ j ∧ j < ns.length ∧ 256 < (row ns j).length) ∨ (zdd ⟨ns⟩ k ds (m : Int) = some 0 ∧ ∀ j, m ≤ j → j < ns.length → (row ns j).length ≤ 256)
  | 0, m, ds, hk, hm, _, _ => by omega
  | k + 1, m, ds, hk, hm, hl, hd => by
    rw [zdd]
    by_cases h : m < ns.length
    · rw [show decide ((m : Int) < (ns.length : Int)) = true from by simpa using h, cond_true]
      obtain ⟨z, hz⟩ : ∃ z, ds[m]? = some z := ⟨_, List.getElem?_eq_getElem (by omega)⟩
      simp only [zbr, zii ns h, hz, Option.bind_some]
      rw [zi0 ds (by omega), Option.bind_some]
      have go : ∀ ds' : List Int, ds'.length = ns.length → (∀ j, j < m + 1 → ds'[j]? = some ((row ns j).length : Int)) →
          (zgf (m : Int) (zdd ⟨ns⟩ k) ds' = some 5 ∧ ∃ j, m ≤ j ∧ j < ns.length ∧ 256 < (row ns j).length) ∨ (zgf (m : Int) (zdd ⟨ns⟩ k) ds' = some 0 ∧ ∀ j, m ≤ j → j < ns.length → (row ns j).length ≤ 256) := fun ds' hl' hd' => by
        unfold zgf
        rw [zbr, hd' m (by omega), Option.bind_some]
        by_cases h2 : 256 < (row ns m).length
        · left
          exact ⟨by rw [show decide ((256 : Int) < ((row ns m).length : Int)) = true from by simp; omega, cond_true], m, Nat.le_refl _, h, h2⟩
        · rw [show decide ((256 : Int) < ((row ns m).length : Int)) = false from by simp; omega, cond_false, zgb (by omega)]
          rcases zp8 hN hg k (m + 1) ds' (by omega) (by omega) hl' hd' with ⟨e1, j, e2, e3, e4⟩ | ⟨e1, e2⟩
          · exact .inl ⟨e1, j, by omega, e3, e4⟩
          · refine .inr ⟨e1, fun j hj hj2 => ?_⟩
            rcases Nat.eq_or_lt_of_le hj with e | e
            · subst e; omega
            · exact e2 j e hj2
      by_cases h0 : m = 0
      · subst h0
        rw [show decide ((0 : Int) < ((0 : Nat) : Int)) = false from rfl, cond_false]
        refine go _ (by simpa using hl) fun j hj => ?_
        have : j = 0 := by omega
        subst this
        rw [List.getElem?_set_self (by omega)]; rfl
      · rw [show decide ((0 : Int) < (m : Int)) = true from by simp; omega, cond_true]
        obtain ⟨c, rfl⟩ : ∃ c, m = c + 1 := ⟨m - 1, by omega⟩
        obtain ⟨q, q1, q2, q3, q4⟩ := good.par ns (good.le ns hg (show c + 1 ≤ ns.length - 1 by omega))
        have hq1 : (nd ns (c + 1)).Parent = (q : Int) := q1
        rw [hq1, zbr, List.getElem?_set_ne (by omega), hd q (by omega), Option.bind_some, List.getElem?_set_self (by omega), Option.bind_some]
        rw [zi0 _ (by simp; omega), Option.bind_some]
        have hrl := zkx ns q
        refine go _ (by simpa using hl) fun j hj => ?_
        by_cases hj2 : j = c + 1
        · subst hj2
          rw [List.getElem?_set_self (by simp; omega), q4, List.length_cons, zgb (by omega)]
        · rw [List.getElem?_set_ne (by omega), List.getElem?_set_ne (by omega)]
          exact hd j (by omega)
    · right
      rw [show decide ((m : Int) < (ns.length : Int)) = false from by simp; omega, cond_false]
      exact ⟨rfl, fun j h1 h2 => by omega⟩
theorem linkedP.good (h : linkedP ns) : ∀ i, i < ns.length → good ns i
  | 0, _ => h.1
  | i + 1, hi => ⟨linkedP.good h i (by omega),(h.2.2.2.2.2.1 (i + 1) (by omega) hi).2.1⟩
def rightR (r : Int) : Prop := (ns.length = 0 ∧ r = 10) ∨ (4096 < ns.length ∧ r = 4) ∨ (0 < ns.length ∧ ns.length ≤ 4096 ∧ ((¬ linkedP ns ∧ r = 10) ∨ (linkedP ns ∧ deepP ns ∧ r = 5) ∨ (linkedP ns ∧ ¬ deepP ns ∧ r = 0)))
theorem rightR.uniq {r s : Int} (h : rightR ns r) (h2 : rightR ns s) : r = s := by
  unfold rightR at h h2
  rcases h with h | h | ⟨h, h', h''⟩ <;> rcases h2 with g | g | ⟨g, g', g''⟩ <;> try omega
  rcases h'' with ⟨a, b⟩ | ⟨a, b, c⟩ | ⟨a, b, c⟩ <;> rcases g'' with ⟨a', b'⟩ | ⟨a', b', c'⟩ | ⟨a', b', c'⟩ <;> first | omega | exact absurd ‹linkedP ns› ‹¬ linkedP ns› | exact absurd ‹deepP ns› ‹¬ deepP ns›
theorem zia {n : Nat} (hn : 5000 ≤ n) : ∃ r, zib n ⟨ns⟩ = some r ∧ rightR ns r := by
  unfold zib
  by_cases h0 : ns.length = 0
  · exact ⟨10, by rw [show decide (((⟨ns⟩ : zaa).Nodes.length : Int) = 0) = true from by simpa using h0]; rfl, .inl ⟨h0, rfl⟩⟩
  · rw [show decide (((⟨ns⟩ : zaa).Nodes.length : Int) = 0) = false from by simpa using h0, cond_false]
    by_cases h1 : 4096 < ns.length
    · exact ⟨4, by rw [show decide ((4096 : Int) < ((⟨ns⟩ : zaa).Nodes.length : Int)) = true from by simp; omega]; rfl, .inr (.inl ⟨h1, rfl⟩)⟩
    · rw [show decide ((4096 : Int) < ((⟨ns⟩ : zaa).Nodes.length : Int)) = false from by simp; omega, cond_false]
      obtain ⟨b, e1, e2⟩ := zqa ns (by omega) (by omega) hn
      rw [e1, Option.bind_some]
      cases b with
      | false => exact ⟨10, rfl, .inr (.inr ⟨by omega, by omega, .inl ⟨fun hh => by simpa using e2.2 hh, rfl⟩⟩)⟩
      | true =>
        have hl := e2.1 rfl
        rw [show (!true) = false from rfl, cond_false, zs7 (by show 8 * ns.length ≤ _ ∧ ns.length ≤ _; omega), Option.bind_some]
        rcases zp8 ns (by omega) (linkedP.good ns hl _ (by omega)) n 0 (List.replicate ns.length 0) (by omega) (by omega) (by simp) (fun j hj => by omega) with ⟨g1, j, _, g3, g4⟩ | ⟨g1, g2⟩
        · exact ⟨5, g1, .inr (.inr ⟨by omega, by omega, .inr (.inl ⟨hl, ⟨j, g3, g4⟩, rfl⟩)⟩)⟩
        · exact ⟨0, g1, .inr (.inr ⟨by omega, by omega, .inr (.inr ⟨hl, fun ⟨j, h2, h3⟩ => by have := g2 j (by omega) h2; omega, rfl⟩)⟩)⟩
end
end
section
open Go.RowKit Go.Sl
section
variable (ns : List zae) (hN : ns.length ≤ 4096)
include hN
end
theorem zp1 (ns : List zae) (h0 : 0 < ns.length) : linkedP ns ↔ ((nd ns 0).Kind = 1 ∧ (nd ns 0).Parent = -1 ∧ (nd ns 0).Prev = -1 ∧ (nd ns 0).Next = -1 ∧ aloneP (nd ns 0) ∧ (∀ j,0 < j → j < ns.length → aloneP (nd ns j) ∧ okS ns (j - 1)) ∧ ∀ j, j < ns.length → refP ns j) := by
  have key : (nd ns 0).Kind = 1 → (∀ j,0 < j → j < ns.length → aloneP (nd ns j) ∧ okS ns (j - 1)) → ∀ j,1 ≤ j → j < ns.length → 0 ≤ par ns j ∧ (par ns j).toNat < ns.length := fun hk hok => by
    have hg : ∀ i, i < ns.length → good ns i := by
      intro i
      induction i with
      | zero => intro _; exact hk
      | succ i ih => intro hi; exact ⟨ih (by omega),(hok (i + 1) (by omega) hi).2⟩
    intro j h1 h2
    obtain ⟨q, e1, e2, _⟩ := par_lt ns (hg j h2) h1 (Nat.le_refl _)
    rw [e1]
    simp
    omega
  unfold linkedP
  constructor
  · rintro ⟨a1, a2, a3, a4, a5, a6, a7⟩
    have hok : ∀ j,0 < j → j < ns.length → aloneP (nd ns j) ∧ okS ns (j - 1) := fun j h1 h2 => ⟨(a6 j h1 h2).1,(a6 j h1 h2).2.1⟩
    exact ⟨a1, a2, a3, a4, a5, hok,(zr9 ns h0 a3 a4 (key a1 hok)).1 ⟨fun j h1 h2 => (a6 j h1 h2).2.2, a7⟩⟩
  · rintro ⟨a1, a2, a3, a4, a5, a6, a7⟩
    obtain ⟨b1, b2⟩ := (zr9 ns h0 a3 a4 (key a1 a6)).2 a7
    exact ⟨a1, a2, a3, a4, a5, fun j h1 h2 => ⟨(a6 j h1 h2).1,(a6 j h1 h2).2, b1 j h1 h2⟩, b2⟩
section
variable (ns : List zae)
theorem row_succ (i : Nat) : row ns (i + 1) = ((i + 1 : Nat) : Int) :: pop (par ns (i + 1)) (row ns i) := rfl
end
end
section
open Go.RowKit Go.Sl
theorem zuz (ns : List zae) {j : Nat} (h : j < ns.length) : nd ns j ∈ ns := by
  have := zii ns h
  exact List.mem_of_getElem? this
end
section
open Go.RowKit Go.Sl
mutual
def psize : za8 → Nat
  | ⟨_, _, _, ks⟩ => 1 + pssize ks
def pssize : List za8 → Nat
  | [] => 0
  | k :: ks => psize k + pssize ks
end
theorem zek (p : za8) : psize p = 1 + pssize p.Kids := by cases p; simp [psize]
theorem zky : ∀ {ks : List za8} {k : za8}, k ∈ ks → psize k ≤ pssize ks
  | a :: ks, k, h => by
    rcases List.mem_cons.1 h with rfl | h
    · simp [pssize]
    · have := zky h; simp only [pssize]; omega
theorem zjx : ∀ (xs ys : List za8), pssize (xs ++ ys) = pssize xs + pssize ys
  | [], ys => by simp [pssize]
  | x :: xs, ys => by simp only [List.cons_append, pssize, zjx xs ys]; omega
theorem zn5 (ks : List za8) {i : Nat} {k : za8} (h : ks[i]? = some k) : pssize (ks.take (i + 1)) = pssize (ks.take i) + psize k := by
  rw [List.take_add_one, h, zjx]
  simp [pssize]
theorem zox : ∀ ks : List za8, ks.length ≤ pssize ks
  | [] => by simp
  | k :: ks => by
    have := zox ks
    have := zek k
    simp only [List.length_cons, pssize]; omega
theorem zlf (ks : List za8) (i : Nat) : pssize (ks.take i) ≤ pssize ks := by
  have h := zjx (ks.take i) (ks.drop i)
  rw [List.take_append_drop] at h
  omega
end
section
open Go.RowKit Go.Sl
end
end Go.Proofs.YtpfdbeafdjnbnaaGreatDoor
