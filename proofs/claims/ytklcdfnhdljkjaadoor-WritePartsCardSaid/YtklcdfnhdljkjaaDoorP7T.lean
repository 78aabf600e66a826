/-
  Walks and laws of this seat; the base is the text Base.
-/
import Derived.Test.YtklcdfnhdljkjaaDoorP7S
import Derived.Test.YtklcdfnhdljkjaaDoorL7p
namespace Go.Proofs.YtklcdfnhdljkjaaDoor
open Go.RowKit Go.Sl
/-! # A node as a Part -/
/-- Where kids stand. -/
def kidL : List dom_Part → Nat → List Int
  | [], _ => []
  | k :: ks, b => (b : Int) :: kidL ks (b + nsz k)
section
variable {ns : List api_Node} {n : Nat}
theorem get_at {A B l : List api_Node} {x : api_Node} (hns : ns = A ++ (l ++ B)) (hx : l[0]? = some x) : geti ns (A.length : Int) = some x := by
  have hl : 0 < l.length := (List.getElem?_eq_some_iff.1 hx).1
  rw [geti_nat, hns, List.getElem?_append_right (Nat.le_refl _), Nat.sub_self, List.getElem?_append_left hl]; exact hx
theorem kids_l2 (pa : Int) : ∀ (ks : List dom_Part) (pr : Int) (A B : List api_Node) (acc : List Int) (k : Nat), ns = A ++ (lays ks A.length pa pr (-1) ++ B) → ks.length < k → acc.length + ks.length ≤ 5000 →
    ref5_Kids_l2 ⟨ns⟩ k acc (if ks.length = 0 then -1 else (A.length : Int)) = some (acc ++ kidL ks A.length)
  | [], pr, A, B, acc, k, _, hk, _ => by
    obtain ⟨k, rfl⟩ : ∃ i, k = i + 1 := ⟨k - 1, by omega⟩
    rw [ref5_Kids_l2]
    simp only [List.length_nil, if_true, kidL, List.append_nil]
    rfl
  | q :: r, pr, A, B, acc, k, hns, hk, ha => by
    obtain ⟨k, rfl⟩ : ∃ i, k = i + 1 := ⟨k - 1, by omega⟩
    simp only [List.length_cons] at hk ha
    simp only [lays, List.append_assoc] at hns
    obtain ⟨x, x1, x2⟩ := lay_next q A.length pa pr (if r.length = 0 then -1 else ((A.length + nsz q : Nat) : Int))
    have hg := get_at hns x1
    have hA : (A ++ lay q A.length pa pr (if r.length = 0 then -1 else ((A.length + nsz q : Nat) : Int))).length = A.length + nsz q := by rw [List.length_append, lay_len]
    have ih := kids_l2 pa r (A.length : Int) (A ++ lay q A.length pa pr (if r.length = 0 then -1 else ((A.length + nsz q : Nat) : Int))) B (acc ++ [(A.length : Int)]) k (by rw [hA, List.append_assoc]; exact hns) (by omega) (by rw [List.length_append]; simp only [List.length_cons, List.length_nil]; omega)
    rw [hA] at ih
    rw [ref5_Kids_l2, if_neg (show ¬ (q :: r).length = 0 by simp), dT (show (0 : Int) ≤ (A.length : Int) by omega), cond_true, appM_eq (by simp only [List.length_cons, List.length_nil]; omega), Option.bind_some, show geti (⟨ns⟩ : api_Tree).Nodes (A.length : Int) = some x from hg, Option.bind_some, x2, ih, kidL, List.append_assoc]
    rfl
theorem part_l2 (s : Nat) (x : api_Node) (L : List Int) (pa : Int) (ih : ∀ (q : dom_Part) (A B : List api_Node) (pa pr nx : Int), psize q ≤ s → ns = A ++ (lay q A.length pa pr nx ++ B) → law7_part n ⟨ns⟩ (A.length : Int) = some (cleanP q)) :
    ∀ (ks : List dom_Part) (pr : Int) (A B : List api_Node) (pre : List Int) (acc : List dom_Part) (k : Nat), ns = A ++ (lays ks A.length pa pr (-1) ++ B) → L = pre ++ kidL ks A.length → pre.length = acc.length → ks.length < k → acc.length + ks.length ≤ 5000 → (∀ q ∈ ks, psize q ≤ s) →
      law7_part_l2 ⟨ns⟩ (law7_part n) x L k acc (acc.length : Int) = law7_part_k1 x (acc ++ ks.map cleanP)
  | [], pr, A, B, pre, acc, k, _, hL, hp, hk, _, _ => by
    obtain ⟨k, rfl⟩ : ∃ i, k = i + 1 := ⟨k - 1, by omega⟩
    simp only [kidL, List.append_nil] at hL
    rw [law7_part_l2, dF (show ¬ (acc.length : Int) < (L.length : Int) by rw [hL, hp]; omega), cond_false, List.map_nil, List.append_nil]
  | q :: r, pr, A, B, pre, acc, k, hns, hL, hp, hk, ha, hs => by
    obtain ⟨k, rfl⟩ : ∃ i, k = i + 1 := ⟨k - 1, by omega⟩
    simp only [List.length_cons] at hk ha
    simp only [lays, List.append_assoc] at hns
    simp only [kidL] at hL
    have hA : (A ++ lay q A.length pa pr (if r.length = 0 then -1 else ((A.length + nsz q : Nat) : Int))).length = A.length + nsz q := by rw [List.length_append, lay_len]
    have hq := ih q A _ pa pr _ (hs q (by simp)) hns
    have hget : geti L (acc.length : Int) = some (A.length : Int) := by
      rw [geti_nat, hL, ← hp, List.getElem?_append_right (Nat.le_refl _), Nat.sub_self]; rfl
    have hr := part_l2 s x L pa ih r (A.length : Int) (A ++ lay q A.length pa pr (if r.length = 0 then -1 else ((A.length + nsz q : Nat) : Int))) B (pre ++ [(A.length : Int)]) (acc ++ [cleanP q]) k (by rw [hA, List.append_assoc]; exact hns) (by rw [hA, hL, List.append_assoc]; rfl) (by simp [hp]) (by omega) (by rw [List.length_append]; simp only [List.length_cons, List.length_nil]; omega) (fun q' hq' => hs q' (by simp [hq']))
    have hlen : (acc ++ [cleanP q]).length = acc.length + 1 := by simp
    rw [hlen] at hr
    rw [law7_part_l2, dT (show (acc.length : Int) < (L.length : Int) by rw [hL, List.length_append, List.length_cons, hp]; omega), cond_true, hget, Option.bind_some, hq, Option.bind_some, appM_eq (by simp only [List.length_cons, List.length_nil]; omega), Option.bind_some, w64_succ (by omega), hr, List.append_assoc]
    rfl
theorem part_lay (hN : ns.length ≤ 4096) : ∀ (s : Nat) (p : dom_Part) (n : Nat) (A B : List api_Node) (pa pr nx : Int), psize p ≤ s → s + 6000 ≤ n → ns = A ++ (lay p A.length pa pr nx ++ B) → law7_part n ⟨ns⟩ (A.length : Int) = some (cleanP p) := by
  intro s
  induction s with
  | zero => intro p n A B pa pr nx h; have := psize_eq p; omega
  | succ s ih =>
    intro p n A B pa pr nx h hn hns
    obtain ⟨n, rfl⟩ : ∃ k, n = k + 1 := ⟨n - 1, by omega⟩
    have hp := psize_eq p
    have hll := lay_len p A.length pa pr nx
    have hnl : A.length + nsz p ≤ ns.length := by rw [hns, List.length_append, List.length_append, hll]; omega
    have hz := nsz_pos p
    rw [law7_part]
    unfold law7_part_b ref5_Kids
    have hin : (decide ((A.length : Int) < 0) || decide (((⟨ns⟩ : api_Tree).Nodes.length : Int) ≤ (A.length : Int))) = false := by
      rw [dF (show ¬ (A.length : Int) < 0 by omega), dF (show ¬ (((⟨ns⟩ : api_Tree).Nodes.length : Int) ≤ (A.length : Int)) from by simp only; omega)]; rfl
    rw [hin, cond_false]
    by_cases hname : p.Name = bs []
    · have hx := get_at hns (by rw [lay_text hname]; rfl : (lay p A.length pa pr nx)[0]? = some _)
      rw [show geti (⟨ns⟩ : api_Tree).Nodes (A.length : Int) = _ from hx, Option.bind_some, Option.bind_some]
      obtain ⟨n, rfl⟩ : ∃ k, n = k + 1 := ⟨n - 1, by omega⟩
      have e1 : ref5_Kids_l2 ⟨ns⟩ (n + 1) [] (tnode p.Text pa pr nx).First = some [] := by rw [ref5_Kids_l2]; rfl
      rw [e1, Option.bind_some, law7_part_l2, cleanP_text hname]
      rfl
    · have hx := get_at hns (by rw [lay_elem hname]; rfl : (lay p A.length pa pr nx)[0]? = some _)
      have hns2 := hns
      rw [lay_elem hname] at hns2
      generalize hxx : enode p.Name p.Attrs pa (if p.Kids.length = 0 then -1 else ((A.length + 1 : Nat) : Int)) (lastOf p.Kids (A.length + 1) (-1)) pr nx = xx at *
      have hA1 : (A ++ [xx]).length = A.length + 1 := by simp
      have hns3 : ns = (A ++ [xx]) ++ (lays p.Kids (A ++ [xx]).length (A.length : Int) (-1) (-1) ++ B) := by
        rw [hA1, hns2, List.append_assoc]; rfl
      have hkl : p.Kids.length ≤ nszs p.Kids := by
        have : ∀ ks : List dom_Part, ks.length ≤ nszs ks := by
          intro ks
          induction ks with
          | nil => exact Nat.le_refl _
          | cons k ks ihk => have := nsz_pos k; simp only [List.length_cons, nszs]; omega
        exact this _
      have hne := nsz_elem hname
      have hk := kids_l2 (ns := ns) (A.length : Int) p.Kids (-1) (A ++ [xx]) B [] n hns3 (by omega) (by simp; omega)
      rw [hA1, List.nil_append] at hk
      have hf : xx.First = if p.Kids.length = 0 then -1 else ((A.length + 1 : Nat) : Int) := by rw [← hxx]; rfl
      rw [show geti (⟨ns⟩ : api_Tree).Nodes (A.length : Int) = _ from hx, Option.bind_some, Option.bind_some, hf, hk, Option.bind_some]
      have hl := part_l2 (ns := ns) (n := n) s xx (kidL p.Kids (A.length + 1)) (A.length : Int) (fun q A' B' pa' pr' nx' h1 h2 => ih q n A' B' pa' pr' nx' h1 (by omega) h2) p.Kids (-1) (A ++ [xx]) B [] [] n hns3 (by rw [hA1]; rfl) rfl (by omega) (by simp; omega) (fun q hq => by have := pssize_mem hq; omega)
      rw [show (([] : List dom_Part).length : Int) = 0 from rfl] at hl
      rw [hl, cleanP_elem hname, ← hxx]
      rfl
end
end Go.Proofs.YtklcdfnhdljkjaaDoor
