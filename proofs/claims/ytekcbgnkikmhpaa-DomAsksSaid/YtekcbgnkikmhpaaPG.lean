/-
  Walks and laws of this seat; the base is the text Base.
-/
import Derived.Test.YtekcbgnkikmhpaaPF
namespace Go.Proofs.Ytekcbgnkikmhpaa
open Go.RowKit Go.Sl

section
variable (ns : List api_Node) (hN : ns.length ≤ 4096)
include hN

theorem ref_loop {n : Nat} (hn : 5000 ≤ n) (hA : ∀ j, j < ns.length → (nd ns j).Attrs.length < n ∧ (nd ns j).Attrs.length ≤ 9223372036854775806) : ∀ (k i : Nat) (W : List api_Node) (dp : Int), ns.length < k + (i + 1) → i + 1 ≤ ns.length → good ns i → W.length = ns.length → (∀ j, j ≤ i → W[j]? = some (wn ns i j)) →
    (256 < dp ↔ ∃ j, j ≤ i ∧ 256 < (row ns j).length) →
    (ref5_Right_l6 n ⟨ns⟩ k W dp (row ns i).reverse ((i + 1 : Nat) : Int) = some 10 ∧ ¬ ((∀ j, i < j → j < ns.length → aloneP (nd ns j) ∧ okS ns (j - 1)) ∧ ∀ j, j < ns.length → refP ns j)) ∨
    (((∀ j, i < j → j < ns.length → aloneP (nd ns j) ∧ okS ns (j - 1)) ∧ ∀ j, j < ns.length → refP ns j) ∧ ((ref5_Right_l6 n ⟨ns⟩ k W dp (row ns i).reverse ((i + 1 : Nat) : Int) = some 5 ∧ deepP ns) ∨ (ref5_Right_l6 n ⟨ns⟩ k W dp (row ns i).reverse ((i + 1 : Nat) : Int) = some 0 ∧ ¬ deepP ns)))
  | 0, i, W, dp, hk, hi, _, _, _, _ => by omega
  | k + 1, i, W, dp, hk, hi, hg, hl, hW, hdp => by
    rw [ref5_Right_l6]
    by_cases h : i + 1 < ns.length
    · rw [show decide (((i + 1 : Nat) : Int) < (ns.length : Int)) = true from by simp; omega, cond_true]
      have hx := nd_get ns h
      simp only [geti_nat, hx, Option.bind_some]
      obtain ⟨b, e1, e2⟩ := ref5_plain_eq (nd ns (i + 1)) (hA (i + 1) h).1 (hA (i + 1) h).2
      rw [e1, Option.bind_some]
      have bad : ¬ (aloneP (nd ns (i + 1)) ∧ okS ns i) → ¬ ((∀ j, i < j → j < ns.length → aloneP (nd ns j) ∧ okS ns (j - 1)) ∧ ∀ j, j < ns.length → refP ns j) := fun hb hh =>
        hb (hh.1 (i + 1) (by omega) h)
      cases b with
      | false => exact .inl ⟨rfl, bad fun hh => by simpa using e2.2 hh.1⟩
      | true =>
        have hal := e2.1 rfl
        rw [show (!true) = false from rfl, cond_false, show decide (((i + 1 : Nat) : Int) = 0) = false from by simp; omega, cond_false]
        have hrl := row_length ns i
        rw [ref_pop ns _ _ _ _ _ n (row ns i) (by omega) (by omega)]
        unfold ref5_Right_k8
        have hpl : (pop (nd ns (i + 1)).Parent (row ns i)).length ≤ (row ns i).length := (List.dropWhile_sublist _).length_le
        by_cases h0 : pop (par ns (i + 1)) (row ns i) = []
        · left
          rw [show pop (nd ns (i + 1)).Parent (row ns i) = [] from h0]
          exact ⟨rfl, bad fun hh => hh.2.1 h0⟩
        · have hlen : (pop (nd ns (i + 1)).Parent (row ns i)).length ≠ 0 := fun e => h0 (List.eq_nil_of_length_eq_zero e)
          rw [show decide (((pop (nd ns (i + 1)).Parent (row ns i)).reverse.length : Int) = 0) = false from by simp only [List.length_reverse, decide_eq_false_iff_not]; omega, cond_false]
          -- the parent is a node ahead
          obtain ⟨q, q1, q2⟩ : ∃ q : Nat, par ns (i + 1) = q ∧ q ≤ i := by
            obtain ⟨_, _, _, h3⟩ := good.inv ns hg
            rcases pop_split (par ns (i + 1)) (row ns i) with h4 | ⟨l', tl', h4, h5⟩
            · exact absurd h4 h0
            · obtain ⟨z, hz, hz2, _⟩ := h3 _ tl' l' (by rw [← h5]; exact h4)
              exact ⟨z, hz, hz2⟩
          have hq1 : (nd ns (i + 1)).Parent = (q : Int) := q1
          rw [hq1, geti_nat, nd_get ns (by omega), Option.bind_some]
          unfold ref5_Right_k9
          by_cases hk1 : (nd ns q).Kind = 1
          · rw [show decide ((nd ns q).Kind ≠ 1) = false from decide_eq_false (not_not_intro hk1), cond_false]
            have ho : okS ns i := ⟨h0, by rw [q1]; simpa using hk1⟩
            have hg2 : good ns (i + 1) := ⟨hg, ho⟩
            rw [← hq1, appM_eq (by simp only [List.length_reverse, List.length_singleton]; omega), Option.bind_some]
            have hrow : (pop (nd ns (i + 1)).Parent (row ns i)).reverse ++ [((i + 1 : Nat) : Int)] = (row ns (i + 1)).reverse := by rw [row_succ, List.reverse_cons]
            rw [hrow]
            have go : ∀ dp' : Int, (256 < dp' ↔ ∃ j, j ≤ i + 1 ∧ 256 < (row ns j).length) →
                (ref5_Right_k10 W ((i + 1 : Nat) : Int) (ref5_Right_l6 n ⟨ns⟩ k) (nd ns (i + 1)) (row ns (i + 1)).reverse dp' = some 10 ∧ ¬ ((∀ j, i < j → j < ns.length → aloneP (nd ns j) ∧ okS ns (j - 1)) ∧ ∀ j, j < ns.length → refP ns j)) ∨
                (((∀ j, i < j → j < ns.length → aloneP (nd ns j) ∧ okS ns (j - 1)) ∧ ∀ j, j < ns.length → refP ns j) ∧ ((ref5_Right_k10 W ((i + 1 : Nat) : Int) (ref5_Right_l6 n ⟨ns⟩ k) (nd ns (i + 1)) (row ns (i + 1)).reverse dp' = some 5 ∧ deepP ns) ∨ (ref5_Right_k10 W ((i + 1 : Nat) : Int) (ref5_Right_l6 n ⟨ns⟩ k) (nd ns (i + 1)) (row ns (i + 1)).reverse dp' = some 0 ∧ ¬ deepP ns))) := fun dp' hd' => by
              obtain ⟨W', w1, w2, w3⟩ := ref_bind ns hN W dp' (ref5_Right_l6 n ⟨ns⟩ k) (row ns (i + 1)).reverse hg q1 q2 h hl hW
              rw [w3]
              have same : ((∀ j, i < j → j < ns.length → aloneP (nd ns j) ∧ okS ns (j - 1)) ∧ ∀ j, j < ns.length → refP ns j) ↔ ((∀ j, i + 1 < j → j < ns.length → aloneP (nd ns j) ∧ okS ns (j - 1)) ∧ ∀ j, j < ns.length → refP ns j) := by
                constructor
                · rintro ⟨g1, g2⟩
                  exact ⟨fun j g3 g4 => g1 j (by omega) g4, g2⟩
                · rintro ⟨g1, g2⟩
                  refine ⟨fun j g3 g4 => ?_, g2⟩
                  rcases Nat.eq_or_lt_of_le (show i + 1 ≤ j by omega) with e | e
                  · subst e; exact ⟨hal, ho⟩
                  · exact g1 j e g4
              rw [same]
              exact ref_loop hn hA k (i + 1) W' dp' (by omega) (by omega) hg2 w1 w2 hd'
            have hrl2 := row_length ns (i + 1)
            by_cases hd : dp < ((row ns (i + 1)).reverse.length : Int)
            · rw [decide_eq_true hd, cond_true]
              refine go _ ?_
              simp only [List.length_reverse] at hd ⊢
              constructor
              · intro g
                exact ⟨i + 1, Nat.le_refl _, by omega⟩
              · rintro ⟨j, g1, g2⟩
                rcases Nat.eq_or_lt_of_le g1 with e | e
                · subst e; omega
                · have := hdp.2 ⟨j, by omega, g2⟩
                  omega
            · rw [decide_eq_false hd, cond_false]
              refine go _ ?_
              simp only [List.length_reverse] at hd
              rw [hdp]
              constructor
              · rintro ⟨j, g1, g2⟩
                exact ⟨j, by omega, g2⟩
              · rintro ⟨j, g1, g2⟩
                rcases Nat.eq_or_lt_of_le g1 with e | e
                · subst e
                  exact hdp.1 (by omega)
                · exact ⟨j, by omega, g2⟩
          · rw [show decide ((nd ns q).Kind ≠ 1) = true from decide_eq_true hk1, cond_true]
            exact .inl ⟨rfl, bad fun hh => hk1 (by have := hh.2.2; rw [q1] at this; simpa using this)⟩
    · rw [show decide (((i + 1 : Nat) : Int) < (ns.length : Int)) = false from by simp; omega, cond_false]
      have hlen : ns.length - 1 = i := by omega
      unfold ref5_Right_k2
      rcases ref_end ns hN W dp (fun j hj => by rw [hlen]; exact hW j (by omega)) n 0 (by omega) (by omega) with ⟨e1, e2⟩ | ⟨e1, e2⟩
      · exact .inl ⟨e1, fun hh => e2 fun j _ hj => hh.2 j hj⟩
      · right
        refine ⟨⟨fun j h1 h2 => by omega, fun j hj => e2 j (by omega) hj⟩, ?_⟩
        rw [show (0 : Int) = ((0 : Nat) : Int) from rfl, e1]
        have hdd : (256 < dp ↔ deepP ns) := by
          rw [hdp]
          constructor
          · rintro ⟨j, g1, g2⟩; exact ⟨j, by omega, g2⟩
          · rintro ⟨j, g1, g2⟩; exact ⟨j, by omega, g2⟩
        unfold ref5_Right_k3
        by_cases hd : 256 < dp
        · exact .inl ⟨by rw [decide_eq_true hd]; rfl, hdd.1 hd⟩
        · exact .inr ⟨by rw [decide_eq_false hd]; rfl, fun hh => hd (hdd.2 hh)⟩

end

/-- The two ways of saying that a tree is linked. -/
theorem linked_iff (ns : List api_Node) (h0 : 0 < ns.length) : linkedP ns ↔ ((nd ns 0).Kind = 1 ∧ (nd ns 0).Parent = -1 ∧ (nd ns 0).Prev = -1 ∧ (nd ns 0).Next = -1 ∧ aloneP (nd ns 0) ∧ (∀ j, 0 < j → j < ns.length → aloneP (nd ns j) ∧ okS ns (j - 1)) ∧ ∀ j, j < ns.length → refP ns j) := by
  have key : (nd ns 0).Kind = 1 → (∀ j, 0 < j → j < ns.length → aloneP (nd ns j) ∧ okS ns (j - 1)) → ∀ j, 1 ≤ j → j < ns.length → 0 ≤ par ns j ∧ (par ns j).toNat < ns.length := fun hk hok => by
    have hg : ∀ i, i < ns.length → good ns i := by
      intro i
      induction i with
      | zero => intro _; exact hk
      | succ i ih => intro hi; exact ⟨ih (by omega), (hok (i + 1) (by omega) hi).2⟩
    intro j h1 h2
    obtain ⟨q, e1, e2, _⟩ := par_lt ns (hg j h2) h1 (Nat.le_refl _)
    rw [e1]
    simp
    omega
  unfold linkedP
  constructor
  · rintro ⟨a1, a2, a3, a4, a5, a6, a7⟩
    have hok : ∀ j, 0 < j → j < ns.length → aloneP (nd ns j) ∧ okS ns (j - 1) := fun j h1 h2 => ⟨(a6 j h1 h2).1, (a6 j h1 h2).2.1⟩
    exact ⟨a1, a2, a3, a4, a5, hok, (links_iff ns h0 a3 a4 (key a1 hok)).1 ⟨fun j h1 h2 => (a6 j h1 h2).2.2, a7⟩⟩
  · rintro ⟨a1, a2, a3, a4, a5, a6, a7⟩
    obtain ⟨b1, b2⟩ := (links_iff ns h0 a3 a4 (key a1 a6)).2 a7
    exact ⟨a1, a2, a3, a4, a5, fun j h1 h2 => ⟨(a6 j h1 h2).1, (a6 j h1 h2).2, b1 j h1 h2⟩, b2⟩

theorem ref5_Right_eq (ns : List api_Node) {n : Nat} (hn : 5000 ≤ n) (hA : ∀ j, j < ns.length → (nd ns j).Attrs.length < n ∧ (nd ns j).Attrs.length ≤ 9223372036854775806) : ∃ r, ref5_Right n ⟨ns⟩ = some r ∧ rightR ns r := by
  unfold ref5_Right
  by_cases h0 : ns.length = 0
  · exact ⟨10, by rw [show decide (((⟨ns⟩ : api_Tree).Nodes.length : Int) = 0) = true from by simpa using h0]; rfl, .inl ⟨h0, rfl⟩⟩
  rw [show decide (((⟨ns⟩ : api_Tree).Nodes.length : Int) = 0) = false from by simpa using h0, cond_false]
  by_cases h1 : 4096 < ns.length
  · exact ⟨4, by rw [show decide ((4096 : Int) < ((⟨ns⟩ : api_Tree).Nodes.length : Int)) = true from by simp; omega]; rfl, .inr (.inl ⟨h1, rfl⟩)⟩
  rw [show decide ((4096 : Int) < ((⟨ns⟩ : api_Tree).Nodes.length : Int)) = false from by simp; omega, cond_false]
  have hN : ns.length ≤ 4096 := by omega
  have h00 : 0 < ns.length := by omega
  have e0 : geti ns (0 : Int) = some (nd ns 0) := by rw [show (0 : Int) = ((0 : Nat) : Int) from rfl, geti_nat, nd_get ns h00]
  have bad : ¬ ((nd ns 0).Kind = 1 ∧ (nd ns 0).Parent = -1 ∧ (nd ns 0).Prev = -1 ∧ (nd ns 0).Next = -1) → rightR ns 10 := fun hb => .inr (.inr ⟨h00, hN, .inl ⟨fun hh => hb ⟨hh.1, hh.2.1, hh.2.2.1, hh.2.2.2.1⟩, rfl⟩⟩)
  simp only [e0, Option.bind_some]
  by_cases r1 : (nd ns 0).Kind = 1
  · rw [show decide ((nd ns 0).Kind ≠ 1) = false from decide_eq_false (not_not_intro r1), cond_false]
    by_cases r2 : (nd ns 0).Parent = -1
    · rw [show decide ((nd ns 0).Parent ≠ -1) = false from decide_eq_false (not_not_intro r2), cond_false]
      by_cases r3 : (nd ns 0).Prev = -1
      · rw [show decide ((nd ns 0).Prev ≠ -1) = false from decide_eq_false (not_not_intro r3), cond_false]
        by_cases r4 : (nd ns 0).Next = -1
        · rw [show decide ((nd ns 0).Next ≠ -1) = false from decide_eq_false (not_not_intro r4)]
          unfold ref5_Right_k1
          rw [cond_false, repM_eq (by show 104 * ns.length ≤ _ ∧ ns.length ≤ _; omega), Option.bind_some]
          have ez : (0 : Int) = ((0 : Nat) : Int) := rfl
          rw [show ∀ z : api_Node, geti (List.replicate ns.length z) (0 : Int) = some z from fun z => by rw [ez, geti_nat]; simp [h00], Option.bind_some]
          rw [show ∀ z y : api_Node, seti (List.replicate ns.length z) (0 : Int) y = some ((List.replicate ns.length z).set 0 y) from fun z y => by rw [ez, seti_nat _ (by simpa using h00)], Option.bind_some]
          obtain ⟨k, rfl⟩ : ∃ k, n = k + 1 := ⟨n - 1, by omega⟩
          rw [ref5_Right_l6]
          rw [show decide ((0 : Int) < ((⟨ns⟩ : api_Tree).Nodes.length : Int)) = true from by simp; omega, cond_true]
          rw [show geti (⟨ns⟩ : api_Tree).Nodes (0 : Int) = some (nd ns 0) from e0, Option.bind_some]
          obtain ⟨b, e1, e2⟩ := ref5_plain_eq (nd ns 0) (hA 0 h00).1 (hA 0 h00).2
          rw [e1, Option.bind_some]
          cases b with
          | false => exact ⟨10, rfl, .inr (.inr ⟨h00, hN, .inl ⟨fun hh => by simpa using e2.2 hh.2.2.2.2.1, rfl⟩⟩)⟩
          | true =>
            have hal := e2.1 rfl
            rw [show (!true) = false from rfl, cond_false, show decide ((0 : Int) = 0) = true from rfl, cond_true]
            unfold ref5_Right_k7
            have hl2 := ref_loop ns hN (n := k + 1) hn hA k 0 ((List.replicate ns.length zn).set 0 ({Kind := 0, Name := bs [], Text := bs [], Attrs := [], Parent := -1, First := -1, Last := -1, Prev := -1, Next := -1} : api_Node)) 1 (by omega) (by omega) r1 (by simp) (fun j hj => by
              have : j = 0 := by omega
              subst this
              rw [List.getElem?_set_self (by simpa using h00)]; rfl) (by
              constructor
              · intro h; omega
              · rintro ⟨j, g1, g2⟩
                have : j = 0 := by omega
                subst this
                simp [row] at g2)
            have er : (row ns 0).reverse = [0] := rfl
            rw [er] at hl2
            have es : w64 ((0 : Int) + 1) = ((0 + 1 : Nat) : Int) := rfl
            rw [es]
            rcases hl2 with ⟨g1, g2⟩ | ⟨g1, ⟨g2, g3⟩ | ⟨g2, g3⟩⟩
            · exact ⟨10, g1, .inr (.inr ⟨h00, hN, .inl ⟨fun hh => g2 ⟨((linked_iff ns h00).1 hh).2.2.2.2.2.1, ((linked_iff ns h00).1 hh).2.2.2.2.2.2⟩, rfl⟩⟩)⟩
            · exact ⟨5, g2, .inr (.inr ⟨h00, hN, .inr (.inl ⟨(linked_iff ns h00).2 ⟨r1, r2, r3, r4, hal, g1.1, g1.2⟩, g3, rfl⟩)⟩)⟩
            · exact ⟨0, g2, .inr (.inr ⟨h00, hN, .inr (.inr ⟨(linked_iff ns h00).2 ⟨r1, r2, r3, r4, hal, g1.1, g1.2⟩, g3, rfl⟩)⟩)⟩
        · rw [show decide ((nd ns 0).Next ≠ -1) = true from decide_eq_true r4]
          exact ⟨10, rfl, bad fun hh => r4 hh.2.2.2⟩
      · rw [show decide ((nd ns 0).Prev ≠ -1) = true from decide_eq_true r3, cond_true]
        exact ⟨10, rfl, bad fun hh => r3 hh.2.2.1⟩
    · rw [show decide ((nd ns 0).Parent ≠ -1) = true from decide_eq_true r2, cond_true]
      exact ⟨10, rfl, bad fun hh => r2 hh.2.1⟩
  · rw [show decide ((nd ns 0).Kind ≠ 1) = true from decide_eq_true r1, cond_true]
    exact ⟨10, rfl, bad fun hh => r1 hh.1⟩
end Go.Proofs.Ytekcbgnkikmhpaa
