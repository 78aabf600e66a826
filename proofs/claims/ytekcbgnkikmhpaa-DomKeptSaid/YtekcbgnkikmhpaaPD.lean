/-
  Walks and laws of this seat; the base is the text Base.
-/
import Derived.Test.YtekcbgnkikmhpaaPC
namespace Go.Proofs.Ytekcbgnkikmhpaa
open Go.RowKit Go.Sl
section
variable (ns : List api_Node)
/-- The open elements (the last first), as the program holds them. -/
def opn (i : Nat) : List Int := if (nd ns i).Kind = 1 then row ns i else (row ns i).tail
theorem pop_nil_iff (p : Int) : ∀ l : List Int, p ∉ l → pop p l = []
  | [], _ => rfl
  | x :: l, h => by
    simp only [List.mem_cons, not_or] at h
    unfold pop
    rw [List.dropWhile_cons, if_pos (by simpa using fun e => h.1 e.symm)]
    exact pop_nil_iff p l h.2
theorem pop_cons_ne {p x : Int} (l : List Int) (h : x ≠ p) : pop p (x :: l) = pop p l := by
  unfold pop
  rw [List.dropWhile_cons, if_pos (by simpa using h)]
theorem pop_cons_eq (p : Int) (l : List Int) : pop p (p :: l) = p :: l := by
  unfold pop
  rw [List.dropWhile_cons, if_neg (by simp)]
theorem opn_pop {i : Nat} (h : good ns i) : (okS ns i ∧ pop (par ns (i + 1)) (opn ns i) = pop (par ns (i + 1)) (row ns i)) ∨ (¬ okS ns i ∧ pop (par ns (i + 1)) (opn ns i) = []) := by
  obtain ⟨tl, h1, h2, _⟩ := good.inv ns h
  unfold opn
  by_cases hk : (nd ns i).Kind = 1
  · rw [if_pos hk]
    by_cases h0 : pop (par ns (i + 1)) (row ns i) = []
    · exact .inr ⟨fun ho => ho.1 h0, h0⟩
    · refine .inl ⟨⟨h0, ?_⟩, rfl⟩
      rcases pop_split (par ns (i + 1)) (row ns i) with h4 | ⟨l', tl', h4, h5⟩
      · exact absurd h4 h0
      · have hm : par ns (i + 1) ∈ row ns i := by rw [h4, h5]; simp
        rw [h1] at hm
        rcases List.mem_cons.1 hm with e | e
        · rw [e]; simpa using hk
        · obtain ⟨q, e1, _, e3⟩ := h2 _ e
          rw [e1]; simpa using e3
  · rw [if_neg hk, h1, List.tail_cons]
    by_cases hp : par ns (i + 1) = i
    · right
      refine ⟨fun ho => hk ?_, pop_nil_iff _ _ fun hm => ?_⟩
      · have := ho.2
        rw [hp] at this
        simpa using this
      · obtain ⟨q, e1, e2, _⟩ := h2 _ hm
        omega
    · rw [pop_cons_ne _ (fun e => hp e.symm)]
      by_cases h0 : pop (par ns (i + 1)) tl = []
      · refine .inr ⟨fun ho => ho.1 ?_, h0⟩
        rw [h1, pop_cons_ne _ (fun e => hp e.symm)]; exact h0
      · refine .inl ⟨⟨?_, ?_⟩, rfl⟩
        · rw [h1, pop_cons_ne _ (fun e => hp e.symm)]; exact h0
        · rcases pop_split (par ns (i + 1)) tl with h4 | ⟨l', tl', h4, h5⟩
          · exact absurd h4 h0
          · have hm : par ns (i + 1) ∈ tl := by rw [h4, h5]; simp
            obtain ⟨q, e1, _, e3⟩ := h2 _ hm
            rw [e1]; simpa using e3
theorem lastc_succ (i : Nat) (p : Int) : lastc ns (i + 1) p = if par ns (i + 1) = p then ((i + 1 : Nat) : Int) else lastc ns i p := rfl
theorem opn_succ {i : Nat} : opn ns (i + 1) = if (nd ns (i + 1)).Kind = 1 then ((i + 1 : Nat) : Int) :: pop (par ns (i + 1)) (row ns i) else pop (par ns (i + 1)) (row ns i) := rfl
theorem row_length : ∀ i, (row ns i).length ≤ i + 1
  | 0 => Nat.le_refl _
  | i + 1 => by
    have := row_length i
    have h2 : (pop (par ns (i + 1)) (row ns i)).length ≤ (row ns i).length := (List.dropWhile_sublist _).length_le
    simp only [row, List.length_cons]
    omega
theorem opn_length (i : Nat) : (opn ns i).length ≤ i + 1 := by
  have := row_length ns i
  unfold opn
  split
  · exact this
  · simp; omega
/-- No kid stands ahead of its parent. -/
theorem good.lastc_none : ∀ {i : Nat}, good ns i → ∀ j, i ≤ j → lastc ns i (j : Int) = -1
  | 0, _, _, _ => rfl
  | i + 1, h, j, hj => by
    obtain ⟨q, h1, h2, _⟩ := good.par ns h
    unfold lastc
    rw [if_neg (by omega)]
    exact good.lastc_none h.1 j (by omega)
end
/-! The program's loops -/
section
variable (ns : List api_Node)
theorem linked_pop (m : Int) (lp : List Int → List Int → Int → Option Bool) (x : api_Node) (ls : List Int) : ∀ (k : Nat) (L : List Int), L.length < k → L.length ≤ 4097 →
    dom_linked_l11 ⟨ns⟩ m lp x ls k L.reverse = dom_linked_k7 ⟨ns⟩ m lp x ls (pop x.Parent L).reverse
  | 0, L, h, _ => by omega
  | k + 1, [], h, _ => by
    rw [dom_linked_l11]
    rfl
  | k + 1, a :: l, h, hl => by
    simp only [List.length_cons] at h hl
    rw [dom_linked_l11, List.reverse_cons]
    rw [show decide ((0 : Int) < ((l.reverse ++ [a]).length : Int)) = true from by simp, cond_true, geti_last _ _ (by simp; omega), Option.bind_some]
    unfold dom_linked_k12
    by_cases ha : a = x.Parent
    · rw [show decide (a ≠ x.Parent) = false from by simp [ha], cond_false]
      subst ha
      rw [pop_cons_eq, List.reverse_cons]
    · rw [show decide (a ≠ x.Parent) = true from by simp [ha], cond_true, cutM_last _ _ (by simp; omega), Option.bind_some, linked_pop m lp x ls k l (by omega) (by omega), pop_cons_ne _ ha]
variable (hN : ns.length ≤ 4096)
include hN
theorem linked_end (ls : List Int) (hls : ∀ j, j < ns.length → ls[j]? = some (lastc ns (ns.length - 1) j)) (hr : ∀ j, j < ns.length → lastc ns (ns.length - 1) j ≠ -1 → (lastc ns (ns.length - 1) j).toNat < ns.length ∧ 0 ≤ lastc ns (ns.length - 1) j) :
    ∀ (k m : Nat), ns.length < k + m → m ≤ ns.length → ∃ b, dom_linked_l3 ⟨ns⟩ ls k (m : Int) = some b ∧ (b = true ↔ ∀ j, m ≤ j → j < ns.length → endP ns j)
  | 0, m, hk, hm => by omega
  | k + 1, m, hk, hm => by
    rw [dom_linked_l3]
    by_cases h : m < ns.length
    · have hm2 := hls m h
      rw [show decide ((m : Int) < (ns.length : Int)) = true from by simpa using h, cond_true]
      simp only [geti_nat, nd_get ns h, hm2, Option.bind_some]
      obtain ⟨b, e1, e2⟩ := linked_end ls hls hr k (m + 1) (by omega) (by omega)
      have bad : ¬ endP ns m → ∃ b, dom_linked_k4 (m : Int) (dom_linked_l3 ⟨ns⟩ ls k) true = some b ∧ (b = true ↔ ∀ j, m ≤ j → j < ns.length → endP ns j) := fun hb =>
        ⟨false, rfl, by simp only [Bool.false_eq_true, false_iff]; exact fun hh => hb (hh m (Nat.le_refl _) h)⟩
      have fine : endP ns m → ∃ b, dom_linked_k4 (m : Int) (dom_linked_l3 ⟨ns⟩ ls k) false = some b ∧ (b = true ↔ ∀ j, m ≤ j → j < ns.length → endP ns j) := fun hb => by
        refine ⟨b, ?_, ?_⟩
        · unfold dom_linked_k4
          rw [cond_false, w64_succ (by omega)]; exact e1
        · rw [e2]
          constructor
          · intro hh j hj hj2
            rcases Nat.eq_or_lt_of_le hj with e | e
            · subst e; exact hb
            · exact hh j e hj2
          · intro hh j hj hj2
            exact hh j (by omega) hj2
      by_cases h1 : (nd ns m).Last = lastc ns (ns.length - 1) m
      · rw [show decide ((nd ns m).Last ≠ lastc ns (ns.length - 1) m) = false from decide_eq_false (not_not_intro h1), cond_false]
        by_cases h2 : lastc ns (ns.length - 1) m = -1
        · rw [decide_eq_true h2, cond_true]
          by_cases h3 : (nd ns m).First = -1
          · rw [show decide ((nd ns m).First ≠ -1) = false from decide_eq_false (not_not_intro h3), cond_false, show decide (lastc ns (ns.length - 1) m ≠ -1) = false from decide_eq_false (not_not_intro h2), cond_false]
            exact fine ⟨h1, fun _ => h3, fun hh => absurd h2 hh⟩
          · rw [show decide ((nd ns m).First ≠ -1) = true from decide_eq_true h3, cond_true]
            exact bad fun hh => h3 (hh.2.1 h2)
        · rw [decide_eq_false h2, cond_false, show decide (lastc ns (ns.length - 1) m ≠ -1) = true from decide_eq_true h2, cond_true]
          obtain ⟨h4, h5⟩ := hr m h h2
          have h6 : geti ns (lastc ns (ns.length - 1) m) = some (nd ns (lastc ns (ns.length - 1) m).toNat) := by
            have : lastc ns (ns.length - 1) m = ((lastc ns (ns.length - 1) m).toNat : Int) := by omega
            rw [this, geti_nat, Int.toNat_natCast, nd_get ns h4]
          rw [h6, Option.bind_some]
          by_cases h7 : (nd ns (lastc ns (ns.length - 1) m).toNat).Next = -1
          · rw [show decide ((nd ns (lastc ns (ns.length - 1) m).toNat).Next ≠ -1) = false from decide_eq_false (not_not_intro h7)]
            exact fine ⟨h1, fun hh => absurd hh h2, fun _ => h7⟩
          · rw [show decide ((nd ns (lastc ns (ns.length - 1) m).toNat).Next ≠ -1) = true from decide_eq_true h7]
            exact bad fun hh => h7 (hh.2.2 h2)
      · rw [show decide ((nd ns m).Last ≠ lastc ns (ns.length - 1) m) = true from decide_eq_true h1, cond_true]
        exact bad fun hh => h1 hh.1
    · rw [show decide ((m : Int) < (ns.length : Int)) = false from by simp; omega, cond_false]
      exact ⟨true, rfl, by simp; intro j h1 h2; omega⟩
theorem linked_loop {n : Nat} (hn : 5000 ≤ n) : ∀ (k i : Nat) (ls : List Int), ns.length < k + (i + 1) → i + 1 ≤ ns.length → good ns i → ls.length = ns.length → (∀ j, j ≤ i → ls[j]? = some (lastc ns i j)) →
    ∃ b, dom_linked_l5 n ⟨ns⟩ k (opn ns i).reverse ls ((i + 1 : Nat) : Int) = some b ∧ (b = true ↔ (∀ j, i < j → j < ns.length → aloneP (nd ns j) ∧ okS ns (j - 1) ∧ stepP ns j) ∧ ∀ j, j < ns.length → endP ns j)
  | 0, i, ls, hk, hi, _, _, _ => by omega
  | k + 1, i, ls, hk, hi, hg, hll, hls => by
    rw [dom_linked_l5]
    by_cases h : i + 1 < ns.length
    · rw [show decide (((i + 1 : Nat) : Int) < (ns.length : Int)) = true from by simp; omega, cond_true]
      have hx := nd_get ns h
      have hlx : ∃ z, ls[i + 1]? = some z := ⟨_, List.getElem?_eq_getElem (by omega)⟩
      obtain ⟨z, hz⟩ := hlx
      simp only [geti_nat, hx, hz, Option.bind_some]
      rw [seti_nat ls (by omega), Option.bind_some]
      obtain ⟨b, e1, e2⟩ := dom_alone_eq (nd ns (i + 1)) (n := n) (by omega)
      rw [e1, Option.bind_some]
      have bad : ¬ (aloneP (nd ns (i + 1)) ∧ okS ns i ∧ stepP ns (i + 1)) → (false = true ↔ (∀ j, i < j → j < ns.length → aloneP (nd ns j) ∧ okS ns (j - 1) ∧ stepP ns j) ∧ ∀ j, j < ns.length → endP ns j) := fun hb => by
        simp only [Bool.false_eq_true, false_iff]
        rintro ⟨hh, _⟩
        exact hb (hh (i + 1) (by omega) h)
      cases b with
      | false =>
        refine ⟨false, rfl, bad fun hh => ?_⟩
        have := e2.2 hh.1
        cases this
      | true =>
        rw [show (!true) = false from rfl, cond_false, show decide (((i + 1 : Nat) : Int) = 0) = false from by simp; omega, cond_false]
        have hal := e2.1 rfl
        rw [linked_pop ns _ _ _ _ n (opn ns i) (by have := opn_length ns i; omega) (by have := opn_length ns i; omega)]
        rcases opn_pop ns hg with ⟨ho, hp⟩ | ⟨ho, hp⟩
        · rw [hp]
          have hg2 : good ns (i + 1) := ⟨hg, ho⟩
          obtain ⟨q, q1, q2, q3, q4⟩ := good.par ns hg2
          -- the pops' rest is not empty
          have hne : (pop (par ns (i + 1)) (row ns i)).reverse.length ≠ 0 := by
            have := ho.1
            rw [List.length_reverse]
            intro e
            exact this (List.eq_nil_of_length_eq_zero e)
          unfold dom_linked_k7
          rw [show decide (((pop (par ns (i + 1)) (row ns i)).reverse.length : Int) = 0) = false from by simp only [decide_eq_false_iff_not]; omega, cond_false]
          have hq1 : (nd ns (i + 1)).Parent = (q : Int) := q1
          have hlq : (ls.set (i + 1) (-1))[q]? = some (lastc ns i q) := by
            rw [List.getElem?_set_ne (by omega)]
            exact hls q q2
          rw [hq1, geti_nat, hlq, Option.bind_some]
          have hprev : prevc ns (i + 1) = lastc ns i q := by unfold prevc; rw [q1]; rfl
          -- what goes on, where all is as it should be
          have go : ((nd ns (i + 1)).Prev = prevc ns (i + 1) → stepP ns (i + 1) → ∃ b, dom_linked_k9 ((i + 1 : Nat) : Int) (dom_linked_l5 n ⟨ns⟩ k) (nd ns (i + 1)) (ls.set (i + 1) (-1)) (pop (par ns (i + 1)) (row ns i)).reverse false = some b ∧ (b = true ↔ (∀ j, i < j → j < ns.length → aloneP (nd ns j) ∧ okS ns (j - 1) ∧ stepP ns j) ∧ ∀ j, j < ns.length → endP ns j)) := by
            intro _ hst
            obtain ⟨b, g1, g2⟩ := linked_loop hn k (i + 1) ((ls.set (i + 1) (-1)).set q ((i + 1 : Nat) : Int)) (by omega) (by omega) hg2 (by simp [hll]) (fun j hj => by
              by_cases hjq : q = j
              · subst hjq
                rw [List.getElem?_set_self (by simp; omega)]
                rw [show lastc ns (i + 1) (q : Int) = ((i + 1 : Nat) : Int) from by rw [lastc_succ, if_pos q1]]
              · rw [List.getElem?_set_ne hjq]
                rw [show lastc ns (i + 1) (j : Int) = lastc ns i j from by rw [lastc_succ, if_neg (by omega)]]
                by_cases hji : j = i + 1
                · subst hji
                  rw [List.getElem?_set_self (by omega), good.lastc_none ns hg _ (by omega)]
                · rw [List.getElem?_set_ne (by omega)]
                  exact hls j (by omega))
            refine ⟨b, ?_, ?_⟩
            · unfold dom_linked_k9
              rw [cond_false, hq1, geti_nat, hlq, Option.bind_some, seti_nat _ (by simp; omega), Option.bind_some]
              by_cases hkd : (nd ns (i + 1)).Kind = 1
              · rw [decide_eq_true hkd, cond_true, appM_eq (by
                  have := row_length ns i
                  have h2 : (pop (par ns (i + 1)) (row ns i)).length ≤ (row ns i).length := (List.dropWhile_sublist _).length_le
                  simp only [List.length_reverse, List.length_singleton]
                  omega), Option.bind_some]
                unfold dom_linked_k10 dom_linked_k6
                rw [w64_succ (by omega), ← List.reverse_cons]
                rw [← g1]
                congr 1
                rw [opn_succ, if_pos hkd]
              · rw [decide_eq_false hkd, cond_false]
                unfold dom_linked_k10 dom_linked_k6
                rw [w64_succ (by omega), ← g1]
                congr 1
                rw [opn_succ, if_neg hkd]
            · rw [g2]
              constructor
              · rintro ⟨hh, he⟩
                refine ⟨fun j hj hj2 => ?_, he⟩
                rcases Nat.eq_or_lt_of_le (show i + 1 ≤ j by omega) with e | e
                · subst e; exact ⟨hal, ho, hst⟩
                · exact hh j e hj2
              · rintro ⟨hh, he⟩
                exact ⟨fun j hj hj2 => hh j (by omega) hj2, he⟩
          have stop : ¬ stepP ns (i + 1) → ∃ b, some false = some b ∧ (b = true ↔ (∀ j, i < j → j < ns.length → aloneP (nd ns j) ∧ okS ns (j - 1) ∧ stepP ns j) ∧ ∀ j, j < ns.length → endP ns j) := fun hb => ⟨false, rfl, bad fun hh => hb hh.2.2⟩
          unfold dom_linked_k8
          by_cases h1 : (nd ns (i + 1)).Prev = lastc ns i q
          · rw [show decide ((nd ns (i + 1)).Prev ≠ lastc ns i q) = false from decide_eq_false (not_not_intro h1), cond_false]
            by_cases h2 : (nd ns (i + 1)).Prev = -1
            · rw [decide_eq_true h2, cond_true, hq1, geti_nat, nd_get ns (by omega), Option.bind_some]
              by_cases h3 : (nd ns q).First = ((i + 1 : Nat) : Int)
              · rw [show decide ((nd ns q).First ≠ ((i + 1 : Nat) : Int)) = false from decide_eq_false (not_not_intro h3), cond_false, show decide ((nd ns (i + 1)).Prev ≠ -1) = false from decide_eq_false (not_not_intro h2), cond_false]
                exact go (by rw [h1, hprev]) ⟨by rw [h1, hprev], fun _ => by rw [q1]; simpa using h3, fun hh => absurd h2 hh⟩
              · rw [show decide ((nd ns q).First ≠ ((i + 1 : Nat) : Int)) = true from decide_eq_true h3, cond_true]
                exact stop fun hh => h3 (by have := hh.2.1 h2; rw [q1] at this; simpa using this)
            · rw [decide_eq_false h2, cond_false, show decide ((nd ns (i + 1)).Prev ≠ -1) = true from decide_eq_true h2, cond_true]
              rcases lastc_le ns i q with h4 | ⟨c, h4, c1, c2, _⟩
              · rw [h4] at h1; exact absurd h1 h2
              · rw [h1, h4, geti_nat, nd_get ns (by omega), Option.bind_some]
                by_cases h3 : (nd ns c).Next = ((i + 1 : Nat) : Int)
                · rw [show decide ((nd ns c).Next ≠ ((i + 1 : Nat) : Int)) = false from decide_eq_false (not_not_intro h3)]
                  exact go (by rw [h1, hprev]) ⟨by rw [h1, hprev], fun hh => absurd hh h2, fun _ => by rw [h1, h4]; simpa using h3⟩
                · rw [show decide ((nd ns c).Next ≠ ((i + 1 : Nat) : Int)) = true from decide_eq_true h3]
                  exact stop fun hh => h3 (by have := hh.2.2 h2; rw [h1, h4] at this; simpa using this)
          · rw [show decide ((nd ns (i + 1)).Prev ≠ lastc ns i q) = true from decide_eq_true h1, cond_true]
            exact stop fun hh => h1 (by rw [hh.1, hprev])
        · rw [hp]
          exact ⟨false, rfl, bad fun hh => ho hh.2.1⟩
    · rw [show decide (((i + 1 : Nat) : Int) < (ns.length : Int)) = false from by simp; omega, cond_false]
      have hlen : ns.length - 1 = i := by omega
      obtain ⟨b, e1, e2⟩ := linked_end ns hN ls (fun j hj => by rw [hlen]; exact hls j (by omega)) (fun j hj hl => by
        rcases lastc_le ns (ns.length - 1) j with h4 | ⟨c, h4, c1, c2, _⟩
        · exact absurd h4 hl
        · rw [h4]; simp; omega) n 0 (by omega) (by omega)
      refine ⟨b, e1, ?_⟩
      rw [e2]
      constructor
      · intro hh
        exact ⟨fun j h1 h2 => by omega, fun j hj => hh j (by omega) hj⟩
      · rintro ⟨_, hh⟩ j _ hj
        exact hh j hj
/-- What the program calls linked. -/
def linkedP : Prop := (nd ns 0).Kind = 1 ∧ (nd ns 0).Parent = -1 ∧ (nd ns 0).Prev = -1 ∧ (nd ns 0).Next = -1 ∧ aloneP (nd ns 0) ∧ (∀ j, 0 < j → j < ns.length → aloneP (nd ns j) ∧ okS ns (j - 1) ∧ stepP ns j) ∧ ∀ j, j < ns.length → endP ns j
theorem dom_linked_eq (h0 : 0 < ns.length) {n : Nat} (hn : 5000 ≤ n) : ∃ b, dom_linked n ⟨ns⟩ = some b ∧ (b = true ↔ linkedP ns) := by
  unfold dom_linked
  rw [show geti ns (0 : Int) = some (nd ns 0) from by rw [show (0 : Int) = ((0 : Nat) : Int) from rfl, geti_nat, nd_get ns h0], Option.bind_some]
  by_cases hr : (nd ns 0).Kind = 1 ∧ (nd ns 0).Parent = -1 ∧ (nd ns 0).Prev = -1 ∧ (nd ns 0).Next = -1
  · obtain ⟨r1, r2, r3, r4⟩ := hr
    rw [show (decide ((nd ns 0).Kind ≠ 1) || (decide ((nd ns 0).Parent ≠ -1) || (decide ((nd ns 0).Prev ≠ -1) || decide ((nd ns 0).Next ≠ -1)))) = false from by simp [r1, r2, r3, r4], cond_false]
    rw [repM_eq (by show 8 * ns.length ≤ _ ∧ ns.length ≤ _; omega), Option.bind_some]
    obtain ⟨k, rfl⟩ : ∃ k, n = k + 1 := ⟨n - 1, by omega⟩
    rw [dom_linked_l5]
    rw [show decide ((0 : Int) < (ns.length : Int)) = true from by simp; omega, cond_true]
    have e0 : (0 : Int) = ((0 : Nat) : Int) := rfl
    rw [show geti ns (0 : Int) = some (nd ns 0) from by rw [e0, geti_nat, nd_get ns h0], Option.bind_some]
    rw [show geti (List.replicate ns.length (0 : Int)) (0 : Int) = some 0 from by rw [e0, geti_nat]; simp [h0], Option.bind_some]
    rw [show seti (List.replicate ns.length (0 : Int)) (0 : Int) (-1) = some ((List.replicate ns.length (0 : Int)).set 0 (-1)) from by rw [e0, seti_nat _ (by simpa using h0)], Option.bind_some]
    obtain ⟨b, e1, e2⟩ := dom_alone_eq (nd ns 0) (n := k + 1) (by omega)
    rw [e1, Option.bind_some]
    cases b with
    | false =>
      refine ⟨false, rfl, ?_⟩
      simp only [Bool.false_eq_true, false_iff]
      intro hh
      have := e2.2 hh.2.2.2.2.1
      cases this
    | true =>
      rw [show (!true) = false from rfl, cond_false, show decide ((0 : Int) = 0) = true from rfl, cond_true, appM_eq (by simp), Option.bind_some]
      unfold dom_linked_k6
      obtain ⟨b, g1, g2⟩ := linked_loop ns hN (n := k + 1) hn k 0 ((List.replicate ns.length (0 : Int)).set 0 (-1)) (by omega) (by omega) r1 (by simp) (fun j hj => by
        have : j = 0 := by omega
        subst this
        rw [List.getElem?_set_self (by simpa using h0)]; rfl)
      refine ⟨b, ?_, ?_⟩
      · rw [← g1]
        have : (opn ns 0).reverse = [] ++ [0] := by unfold opn; rw [if_pos r1]; rfl
        rw [this]; rfl
      · rw [g2]
        unfold linkedP
        constructor
        · rintro ⟨h1, h2⟩
          exact ⟨r1, r2, r3, r4, e2.1 rfl, h1, h2⟩
        · rintro ⟨_, _, _, _, _, h1, h2⟩
          exact ⟨h1, h2⟩
  · refine ⟨false, ?_, ?_⟩
    · rw [show (decide ((nd ns 0).Kind ≠ 1) || (decide ((nd ns 0).Parent ≠ -1) || (decide ((nd ns 0).Prev ≠ -1) || decide ((nd ns 0).Next ≠ -1)))) = true from ?_, cond_true]
      simp only [Bool.or_eq_true, decide_eq_true_eq]
      by_cases r1 : (nd ns 0).Kind = 1
      · by_cases r2 : (nd ns 0).Parent = -1
        · by_cases r3 : (nd ns 0).Prev = -1
          · exact .inr (.inr (.inr fun r4 => hr ⟨r1, r2, r3, r4⟩))
          · exact .inr (.inr (.inl r3))
        · exact .inr (.inl r2)
      · exact .inl r1
    · simp only [Bool.false_eq_true, false_iff]
      intro hh
      exact hr ⟨hh.1, hh.2.1, hh.2.2.1, hh.2.2.2.1⟩
end
end Go.Proofs.Ytekcbgnkikmhpaa
