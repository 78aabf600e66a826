/-
  Walks and laws of this seat; the base is the text Base.
-/
import Derived.Test.YtekcbgnkikmhpaaL5w
import Derived.Test.YtekcbgnkikmhpaaPN
namespace Go.Proofs.Ytekcbgnkikmhpaa
open Go.RowKit Go.Sl
theorem part_eq : ∀ (s : Nat) (p : dom_Part) (n : Nat), psize p ≤ s → s ≤ 2000 → s + 2 ≤ n → law5_part n (conv p) = some p := by
  intro s
  induction s with
  | zero => intro p n h; have := psize_eq p; omega
  | succ s ih =>
    intro p n h hs hn
    obtain ⟨m, rfl⟩ : ∃ m, n = m + 1 := ⟨n - 1, by omega⟩
    have hp := psize_eq p
    have hlen := pssize_len p.Kids
    rw [law5_part]
    unfold law5_part_b
    have loop : ∀ (k i : Nat), p.Kids.length < k + i → i ≤ p.Kids.length → law5_part_l2 (conv p) (law5_part m) k (p.Kids.take i) (i : Int) = some p := by
      intro k
      induction k with
      | zero => intro i h1 h2; omega
      | succ k ihk =>
        intro i h1 h2
        rw [law5_part_l2]
        have hck : (conv p).Kids = p.Kids.map conv := by rw [conv_eq]
        have hcl : (conv p).Kids.length = p.Kids.length := by rw [hck, List.length_map]
        by_cases hi : i < p.Kids.length
        · obtain ⟨q, hq⟩ : ∃ q, p.Kids[i]? = some q := ⟨_, List.getElem?_eq_getElem hi⟩
          have hqs := pssize_mem (List.mem_of_getElem? hq)
          rw [show decide ((i : Int) < ((conv p).Kids.length : Int)) = true from by rw [hcl]; simpa using hi, cond_true, geti_nat, hck, List.getElem?_map, hq, Option.map_some, Option.bind_some, ih q m (by omega) (by omega) (by omega), Option.bind_some]
          rw [appM_eq (by simp only [List.length_take, List.length_singleton]; omega), Option.bind_some, w64_succ (by omega)]
          have := ihk (i + 1) (by omega) (by omega)
          rw [List.take_add_one, hq] at this
          simpa using this
        · rw [show decide ((i : Int) < ((conv p).Kids.length : Int)) = false from by rw [hcl]; simp; omega, cond_false]
          have : i = p.Kids.length := by omega
          subst this
          rw [List.take_length]
          unfold law5_part_k1
          rw [conv_eq p]
          cases p; rfl
    exact loop m 0 (by omega) (by omega)
theorem alone_attrs {x : api_Node} (h : aloneP x) : x.Attrs.length ≤ 64 := by
  rcases h with ⟨_, _, _, h, _⟩ | ⟨_, _, _, h, _⟩ <;> omega
theorem kept_gives {f : Fz} {a0 : List Value} {p : dom_Part} (h0 : t_dom_Part.R f a0 p) (hS : S_dom_Part p) : Gives Try.prog 6 [.agg a0.toArray] f (.bool true) := by
  have hkn := known_true 5000000000000
  obtain ⟨F, hF⟩ : ∃ F, F = 5000000000000 + 20 := ⟨_, rfl⟩
  rw [← hF] at hkn
  obtain ⟨d, d1, d2⟩ := deep_top p (n := F) (by omega)
  refine law5_DomKept_ok (n := F) h0 d1 hkn fun hd => ?_
  have hsz : psize p ≤ 2000 := by have := d2 (by omega); omega
  have hok := okP_of_S _ p (Nat.le_refl _) hS
  obtain ⟨r, r1, r4⟩ := make_eq (F := F) (by omega) hok hsz
  have r2 := lay_okA p 0 (-1) (-1) (-1) hok
  have r3 : (lay p 0 (-1) (-1) (-1)).length ≤ 2000 := by have := nsz_le p; rw [lay_len]; omega
  have e1 := plain_eq (psize p) p F (Nat.le_refl _) hsz (by omega)
  have e2 := part_eq (psize p) p F (Nat.le_refl _) hsz (by omega)
  by_cases h : r = 0
  · subst h
    rw [if_pos rfl] at r4
    have hl : linkedP (lay p 0 (-1) (-1) (-1)) := by
      rcases r1 with ⟨_, e⟩ | ⟨_, e⟩ | ⟨_, _, ⟨_, e⟩ | ⟨_, _, e⟩ | ⟨e1, _, _⟩⟩
      · omega
      · omega
      · omega
      · omega
      · exact e1
    have hat : ∀ j, j < (lay p 0 (-1) (-1) (-1)).length → (nd (lay p 0 (-1) (-1) (-1)) j).Attrs.length ≤ 64 := fun j hj => by
      by_cases h0 : j = 0
      · subst h0; exact alone_attrs hl.2.2.2.2.1
      · exact alone_attrs (hl.2.2.2.2.2.1 j (by omega) hj).1
    have hmem : ∀ x ∈ lay p 0 (-1) (-1) (-1), x.Attrs.length ≤ 64 := fun x hx => by
      obtain ⟨j, hj⟩ := List.getElem?_of_mem hx
      have hlt := (List.getElem?_eq_some_iff.1 hj).1
      have := nd_get (lay p 0 (-1) (-1) (-1)) hlt
      rw [hj] at this
      rw [Option.some.inj this]
      exact hat j hlt
    have hcs := psize_clean (psize p) p (Nat.le_refl _)
    refine ⟨conv p, p, _, _, e1, e2, r4, by simp only; omega, fun x hx => by have := hmem x hx; omega, fun _ => ⟨⟨lay p 0 (-1) (-1) (-1)⟩, cleanP p, cleanP p, copy_eq _ (by omega) (by omega) (fun j hj => by have := hat j hj; omega), ?_, ?_, sameTree_refl _ (by omega) (by omega) (fun j hj => by have := hat j hj; omega), clean_eq (psize p) p F (Nat.le_refl _) (by omega) (by omega), same_refl (psize p) (cleanP p) F hcs (by omega) (by omega) (okP_clean _ p (Nat.le_refl _) hok)⟩⟩
    · obtain ⟨z, z1, z2⟩ := dom_Right_eq (lay p 0 (-1) (-1) (-1)) (n := F) (by omega)
      have hz := rightR.uniq _ z2 r1
      subst hz
      have hp := parts_lay (lay p 0 (-1) (-1) (-1)) (by omega) r2 (psize p) p F [] [] (-1) (-1) (-1) (Nat.le_refl _) (by omega) (by simp)
      unfold dom_Parts
      rw [z1, Option.bind_some, show decide ((0 : Int) ≠ 0) = false from rfl, cond_false, show (0 : Int) = (([] : List api_Node).length : Int) from rfl, hp, Option.bind_some]
    · by_cases hn : p.Name = bs []
      · rw [cleanP_text hn]; simp
      · rw [cleanP_elem hn]
        have := hmem (enode p.Name p.Attrs (-1) (if p.Kids.length = 0 then -1 else ((0 + 1 : Nat) : Int)) (lastOf p.Kids (0 + 1) (-1)) (-1) (-1)) (by rw [lay_elem hn]; exact List.mem_cons_self)
        simp only [enode] at this
        show p.Attrs.length ≤ _
        omega
  · rw [if_neg h] at r4
    exact ⟨conv p, p, _, _, e1, e2, r4, by simp, by simp, fun e => absurd e h⟩
end Go.Proofs.Ytekcbgnkikmhpaa
