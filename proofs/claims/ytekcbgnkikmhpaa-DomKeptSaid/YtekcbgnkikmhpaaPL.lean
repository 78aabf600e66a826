/-
  Walks and laws of this seat; the base is the text Base.
-/
import Derived.Test.YtekcbgnkikmhpaaPK
namespace Go.Proofs.Ytekcbgnkikmhpaa
open Go.RowKit Go.Sl
mutual
def cleanP : dom_Part → dom_Part
  | ⟨nm, tx, at_, ks⟩ => if nm = bs [] then ⟨bs [], tx, [], []⟩ else ⟨nm, bs [], at_, cleanPs ks⟩
def cleanPs : List dom_Part → List dom_Part
  | [] => []
  | k :: ks => cleanP k :: cleanPs ks
end
theorem cleanPs_map : ∀ ks : List dom_Part, cleanPs ks = ks.map cleanP
  | [] => rfl
  | k :: ks => by simp only [cleanPs, List.map_cons, cleanPs_map ks]
theorem cleanP_text {p : dom_Part} (h : p.Name = bs []) : cleanP p = ⟨bs [], p.Text, [], []⟩ := by cases p; simp only at h; simp [cleanP, h]
theorem cleanP_elem {p : dom_Part} (h : p.Name ≠ bs []) : cleanP p = ⟨p.Name, bs [], p.Attrs, p.Kids.map cleanP⟩ := by cases p; simp only at h; simp only [cleanP, if_neg h, cleanPs_map]
theorem okP_clean : ∀ (s : Nat) (p : dom_Part), psize p ≤ s → okP p → okP (cleanP p)
  | 0, p, h, _ => by have := psize_eq p; omega
  | s + 1, p, h, hp => by
    rw [okP_eq] at hp
    by_cases hn : p.Name = bs []
    · rw [cleanP_text hn, okP_eq]
      exact ⟨by simp, trivial⟩
    · rw [cleanP_elem hn, okP_eq]
      refine ⟨hp.1, okPs_of fun k hk => ?_⟩
      obtain ⟨q, hq, rfl⟩ := List.mem_map.1 hk
      have := psize_eq p
      have := pssize_mem hq
      exact okP_clean s q (by omega) (okPs_mem hp.2 hq)
theorem psize_clean : ∀ (s : Nat) (p : dom_Part), psize p ≤ s → psize (cleanP p) ≤ psize p := by
  intro s
  induction s with
  | zero => intro p h; have := psize_eq p; omega
  | succ s ih =>
    intro p h
    have hp := psize_eq p
    by_cases hn : p.Name = bs []
    · rw [cleanP_text hn, psize_eq]
      simp only [pssize]; omega
    · rw [cleanP_elem hn, psize_eq]
      have : ∀ ks : List dom_Part, pssize ks ≤ s → pssize (ks.map cleanP) ≤ pssize ks := by
        intro ks
        induction ks with
        | nil => intro _; exact Nat.le_refl _
        | cons k ks ihk =>
          intro hk
          simp only [pssize] at hk
          simp only [List.map_cons, pssize]
          have := ih k (by omega)
          have := ihk (by omega)
          omega
      have := this p.Kids (by omega)
      simp only
      omega
theorem lay_next (p : dom_Part) (b : Nat) (pa pr nx : Int) : ∃ x, (lay p b pa pr nx)[0]? = some x ∧ x.Next = nx := by
  by_cases h : p.Name = bs []
  · exact ⟨_, by rw [lay_text h]; rfl, rfl⟩
  · exact ⟨_, by rw [lay_elem h]; rfl, rfl⟩
/-- A kid's place among its siblings. -/
theorem lays_split : ∀ (ks : List dom_Part) (i : Nat) (q : dom_Part) (b : Nat) (pa pr nx : Int), ks[i]? = some q →
    ∃ U V pr', lays ks b pa pr nx = U ++ (lay q (b + nszs (ks.take i)) pa pr' (if i + 1 = ks.length then nx else ((b + nszs (ks.take (i + 1)) : Nat) : Int)) ++ V) ∧ U.length = nszs (ks.take i)
  | [], i, q, b, pa, pr, nx, h => by simp at h
  | k :: ks, 0, q, b, pa, pr, nx, h => by
    simp at h
    subst h
    refine ⟨[], lays ks (b + nsz k) pa (b : Int) nx, pr, ?_, rfl⟩
    have e : (if 0 + 1 = (k :: ks).length then nx else ((b + nszs ((k :: ks).take (0 + 1)) : Nat) : Int)) = (if ks.length = 0 then nx else ((b + nsz k : Nat) : Int)) := by
      simp only [List.length_cons, List.take_succ_cons, List.take_zero, nszs]
      by_cases h : ks.length = 0
      · rw [if_pos (by omega), if_pos h]
      · rw [if_neg (by omega), if_neg h]; congr 1
    rw [e]
    rfl
  | k :: ks, i + 1, q, b, pa, pr, nx, h => by
    simp only [List.getElem?_cons_succ] at h
    obtain ⟨U, V, pr', h1, h2⟩ := lays_split ks i q (b + nsz k) pa (b : Int) nx h
    refine ⟨lay k b pa pr (if ks.length = 0 then nx else ((b + nsz k : Nat) : Int)) ++ U, V, pr', ?_, ?_⟩
    · simp only [lays, h1, List.append_assoc, List.take_succ_cons, nszs, List.length_cons]
      have e1 : b + nsz k + nszs (ks.take i) = b + (nsz k + nszs (ks.take i)) := by omega
      have e2 : b + nsz k + nszs (ks.take (i + 1)) = b + (nsz k + nszs (ks.take (i + 1))) := by omega
      rw [e1, e2]
      congr 3
      congr 1
      by_cases hh : i + 1 = ks.length
      · rw [if_pos hh, if_pos (by omega)]
      · rw [if_neg hh, if_neg (by omega)]
    · rw [List.length_append, lay_len, h2]
      simp [nszs]
theorem parts_lay (ns : List api_Node) (hN : ns.length ≤ 4096) (hok : ∀ x ∈ ns, okA x) : ∀ (s : Nat) (p : dom_Part) (n : Nat) (A B : List api_Node) (pa pr nx : Int), psize p ≤ s → s + 5000 ≤ n → ns = A ++ (lay p A.length pa pr nx ++ B) → dom_Parts_1 n (A.length : Int) ⟨ns⟩ = some (cleanP p) := by
  intro s
  induction s with
  | zero => intro p n A B pa pr nx h; have := psize_eq p; omega
  | succ s ih =>
    intro p n A B pa pr nx h hn hns
    obtain ⟨n, rfl⟩ : ∃ k, n = k + 1 := ⟨n - 1, by omega⟩
    have hp := psize_eq p
    have hre : reachBytes = 140737488351232 := rfl
    rw [dom_Parts_1]
    unfold dom_Parts_1_b slices_Clone
    have hz := nsz_pos p
    have hll := lay_len p A.length pa pr nx
    have hhd : ∀ x, (lay p A.length pa pr nx)[0]? = some x → ns[A.length]? = some x := fun x hx => by
      rw [hns, List.getElem?_append_right (Nat.le_refl _), Nat.sub_self, List.getElem?_append_left (by omega)]; exact hx
    by_cases hname : p.Name = bs []
    · have hx := hhd _ (by rw [lay_text hname]; rfl)
      rw [geti_nat, hx, Option.bind_some]
      rw [show appM 32 ([] : List api_Attr) (tnode p.Text pa pr nx).Attrs = some [] from rfl, Option.bind_some]
      unfold dom_Parts_1_k1
      obtain ⟨k, rfl⟩ : ∃ k, n = k + 1 := ⟨n - 1, by omega⟩
      rw [dom_Parts_1_l3, show decide ((tnode p.Text pa pr nx).First ≠ -1) = false from rfl, cond_false, cleanP_text hname]
      rfl
    · have hx := hhd _ (by rw [lay_elem hname]; rfl)
      have hxo := hok _ (List.mem_of_getElem? hx)
      unfold okA at hxo
      rw [geti_nat, hx, Option.bind_some, appM_eq (by simp only [List.length_nil, Nat.zero_add]; omega), Option.bind_some, List.nil_append]
      unfold dom_Parts_1_k1
      have hlen := pssize_len p.Kids
      have hnl : nszs p.Kids + 1 ≤ ns.length := by
        rw [hns, List.length_append, List.length_append, hll, nsz_elem hname]; omega
      have hkl : p.Kids.length ≤ nszs p.Kids := by
        have : ∀ ks : List dom_Part, ks.length ≤ nszs ks := by
          intro ks
          induction ks with
          | nil => exact Nat.le_refl _
          | cons k ks ihk => have := nsz_pos k; simp only [List.length_cons, nszs]; omega
        exact this _
      generalize hxx : enode p.Name p.Attrs pa (if p.Kids.length = 0 then -1 else ((A.length + 1 : Nat) : Int)) (lastOf p.Kids (A.length + 1) (-1)) pr nx = xx at *
      have loop : ∀ (k i : Nat), p.Kids.length < k + i → i ≤ p.Kids.length → dom_Parts_1_l3 ⟨ns⟩ (dom_Parts_1 n) xx xx.Attrs k ((p.Kids.take i).map cleanP) (if i = p.Kids.length then -1 else ((A.length + 1 + nszs (p.Kids.take i) : Nat) : Int)) = some (cleanP p) := by
        intro k
        induction k with
        | zero => intro i h1 h2; omega
        | succ k ihk =>
          intro i h1 h2
          rw [dom_Parts_1_l3]
          by_cases hi : i = p.Kids.length
          · subst hi
            rw [if_pos rfl, show decide ((-1 : Int) ≠ -1) = false from rfl, cond_false, List.take_length]
            unfold dom_Parts_1_k2
            rw [cleanP_elem hname, ← hxx]
            rfl
          · rw [if_neg hi, show decide (((A.length + 1 + nszs (p.Kids.take i) : Nat) : Int) ≠ -1) = true from decide_eq_true (by omega), cond_true]
            obtain ⟨q, hq⟩ : ∃ q, p.Kids[i]? = some q := ⟨_, List.getElem?_eq_getElem (by omega)⟩
            have hqs := pssize_mem (List.mem_of_getElem? hq)
            obtain ⟨U, V, pr', e1, e2⟩ := lays_split p.Kids i q (A.length + 1) (A.length : Int) (-1) (-1) hq
            have hAl : (A ++ xx :: U).length = A.length + 1 + nszs (p.Kids.take i) := by rw [List.length_append, List.length_cons, e2]; omega
            have hns2 : ns = (A ++ xx :: U) ++ (lay q (A ++ xx :: U).length (A.length : Int) pr' (if i + 1 = p.Kids.length then -1 else ((A.length + 1 + nszs (p.Kids.take (i + 1)) : Nat) : Int)) ++ (V ++ B)) := by
              rw [hAl]
              conv => lhs; rw [hns, lay_elem hname, hxx, e1]
              simp [List.append_assoc]
            have g := ih q n (A ++ xx :: U) (V ++ B) _ _ _ (by omega) (by omega) hns2
            rw [hAl] at g
            rw [g, Option.bind_some, appM_eq (by simp only [List.length_map, List.length_take, List.length_singleton]; omega), Option.bind_some]
            obtain ⟨y, y1, y2⟩ := lay_next q (A ++ xx :: U).length (A.length : Int) pr' (if i + 1 = p.Kids.length then -1 else ((A.length + 1 + nszs (p.Kids.take (i + 1)) : Nat) : Int))
            have hy : ns[A.length + 1 + nszs (p.Kids.take i)]? = some y := by
              rw [hns2, List.getElem?_append_right (by omega), hAl, Nat.sub_self, List.getElem?_append_left (by rw [lay_len]; exact nsz_pos q), ← hAl]
              exact y1
            rw [geti_nat, hy, Option.bind_some, y2]
            have := ihk (i + 1) (by omega) (by omega)
            rw [List.take_add_one, hq] at this
            rw [List.take_add_one, hq]
            simpa using this
      have := loop n 0 (by omega) (by omega)
      rw [← this]
      congr 1
      rw [← hxx]
      simp only [enode, List.take_zero, nszs, Nat.add_zero]
      by_cases h0 : p.Kids.length = 0
      · rw [if_pos h0, if_pos h0.symm]
      · rw [if_neg h0, if_neg (Ne.symm h0)]
end Go.Proofs.Ytekcbgnkikmhpaa
