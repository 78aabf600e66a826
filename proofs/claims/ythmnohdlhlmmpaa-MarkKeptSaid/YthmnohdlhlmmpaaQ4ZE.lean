/-
  Walks and laws of this seat; the base is the text Base.
-/
import Derived.Test.YthmnohdlhlmmpaaQ4ZD
import Derived.Test.YthmnohdlhlmmpaaQ4K
import Derived.Test.YthmnohdlhlmmpaaQ4W
import Derived.Test.YthmnohdlhlmmpaaL4vt
namespace Go.Proofs.Ythmnohdlhlmmpaa
open Go.RowKit Go.Sl
variable {n : Nat}
theorem valid_l2 (l : List Int) (hl : l.length ≤ 1000000000) : ∀ (d j k : Nat), j + d = l.length → d + 1 ≤ k → ∃ b, keep_Valid_l2 l k (j : Int) = some b
  | 0, j, k, hj, hk => by
    obtain ⟨k, rfl⟩ : ∃ i, k = i + 1 := ⟨k - 1, by omega⟩
    refine ⟨true, ?_⟩
    rw [keep_Valid_l2, dF (by omega)]; rfl
  | d + 1, j, k, hj, hk => by
    obtain ⟨k, rfl⟩ : ∃ i, k = i + 1 := ⟨k - 1, by omega⟩
    obtain ⟨b, ih⟩ := valid_l2 l hl d (j + 1) k (by omega) (by omega)
    have k3 : ∀ c, ∃ b, keep_Valid_k3 (j : Int) (keep_Valid_l2 l k) c = some b := fun c => by
      unfold keep_Valid_k3
      cases c with
      | true => exact ⟨false, rfl⟩
      | false => exact ⟨b, by rw [cond_false, w64_succ (by omega), ih]⟩
    have hlt : j < l.length := by omega
    rw [keep_Valid_l2, dT (by omega), geti_nat, List.getElem?_eq_getElem hlt, Option.bind_some, Option.bind_some, Option.bind_some, Option.bind_some]
    cases decide (l[j] < 0) with
    | true => exact k3 true
    | false =>
      cases decide (1114111 < l[j]) with
      | true => exact k3 true
      | false =>
        cases decide (55296 ≤ l[j]) with
        | true => exact k3 _
        | false => exact k3 false
theorem attrs_same (al : List api_Attr) (hb : al.length ≤ 1000000) : ∀ (d j k : Nat), j + d = al.length → d + 1 ≤ k → book_Same_api_Attr_l2 al al k (j : Int) = some true
  | 0, j, k, hj, hk => by
    obtain ⟨k, rfl⟩ : ∃ i, k = i + 1 := ⟨k - 1, by omega⟩
    rw [book_Same_api_Attr_l2, dF (by omega)]; rfl
  | d + 1, j, k, hj, hk => by
    obtain ⟨k, rfl⟩ : ∃ i, k = i + 1 := ⟨k - 1, by omega⟩
    have hlt : j < al.length := by omega
    rw [book_Same_api_Attr_l2, dT (by omega), geti_nat, List.getElem?_eq_getElem hlt, Option.bind_some, Option.bind_some, decide_eq_true rfl, decide_eq_true rfl]
    simp only [Bool.and_true, Bool.not_true, cond_false]
    rw [w64_succ (by omega)]
    exact attrs_same al hb d (j + 1) k (by omega) (by omega)
theorem attrs_same_eq (al : List api_Attr) (hb : al.length ≤ 1000000) (hn : al.length + 1 ≤ n) : book_Same_api_Attr n al al = some true := by
  unfold book_Same_api_Attr
  rw [dF (by simp)]
  exact attrs_same al hb al.length 0 n (by omega) hn
theorem token_true (t : mark_Token) (hb : t.Attrs.length ≤ 1000000) (hn : t.Attrs.length + 1 ≤ n) : law4_token n t (rt t) = some true := by
  unfold law4_token rt
  rw [dT rfl, dT rfl, dT rfl, attrs_same_eq _ hb hn]
  simp [law4_token_k1]
theorem tokens_true_l2 (ts : List mark_Token) (h : ∀ t ∈ ts, t.Attrs.length ≤ 1000000 ∧ t.Attrs.length + 1 ≤ n) (hl : ts.length ≤ 1000000000) : ∀ (d j k : Nat), j + d = ts.length → d + 1 ≤ k → law4_tokens_l2 n ts (ts.map rt) k (j : Int) = some true
  | 0, j, k, hj, hk => by
    obtain ⟨k, rfl⟩ : ∃ i, k = i + 1 := ⟨k - 1, by omega⟩
    rw [law4_tokens_l2, dF (by omega)]; rfl
  | d + 1, j, k, hj, hk => by
    obtain ⟨k, rfl⟩ : ∃ i, k = i + 1 := ⟨k - 1, by omega⟩
    have hlt : j < ts.length := by omega
    obtain ⟨h1, h2⟩ := h ts[j] (List.getElem_mem hlt)
    rw [law4_tokens_l2, dT (by omega), geti_nat, geti_nat, List.getElem?_map, List.getElem?_eq_getElem hlt, Option.bind_some, Option.map_some, Option.bind_some, token_true _ h1 h2, Option.bind_some, Bool.not_true, cond_false, w64_succ (by omega)]
    exact tokens_true_l2 ts h hl d (j + 1) k (by omega) (by omega)
theorem tokens_true (ts : List mark_Token) (h : ∀ t ∈ ts, t.Attrs.length ≤ 1000000 ∧ t.Attrs.length + 1 ≤ n) (hl : ts.length ≤ 1000000000) (hn : ts.length + 1 ≤ n) : law4_tokens n ts (ts.map rt) = some true := by
  unfold law4_tokens
  rw [dF (by simp)]
  exact tokens_true_l2 ts h hl ts.length 0 n (by omega) hn
/-! A roomy copy. -/
end Go.Proofs.Ythmnohdlhlmmpaa
