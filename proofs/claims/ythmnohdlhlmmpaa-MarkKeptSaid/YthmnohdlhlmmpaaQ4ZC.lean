/-
  Walks and laws of this seat; the base is the text Base.
-/
import Derived.Test.YthmnohdlhlmmpaaQ4ZB
namespace Go.Proofs.Ythmnohdlhlmmpaa
open Go.RowKit Go.Sl
variable {n : Nat} {pre r : List Int}
def neB (q : Int) (z : Int) : Bool := decide (z ≠ q)
/-- What the reference makes of an attribute: as attrS, and where that ends nowhere, the end of the text. -/
def RAttr (L : List Int) (m : Option (api_Attr × Int)) : Option (api_Attr × List Int) → Prop
  | none => ∃ a, m = some (a, (L.length : Int))
  | some q => ∃ pre', pre' ++ q.2 = L ∧ m = some (q.1, (pre'.length : Int))
theorem ref_quoted (nm : ByteArray) (q : Int) (hn : 4 * (pre.length + (q :: r).length) + 100 ≤ n) (hb : pre.length + (q :: r).length ≤ 1000000) :
    RAttr (pre ++ q :: r) (ref4_attr_k3 n (pre ++ q :: r) nm (pre.length : Int) true) ((match r.dropWhile (neB q) with | [] => none | _ :: r' => some (r.takeWhile (neB q), r')).map fun (z : List Int × List Int) => (({ Name := nm, Value := ub (textOf z.1) } : api_Attr), z.2)) := by
  simp only [List.length_cons] at hn hb
  unfold ref4_attr_k3
  have hL : pre ++ q :: r = (pre ++ [q]) ++ r := by simp
  have e := scan (L := pre ++ q :: r) (by simp; omega) (F := ref4_attr_l6 n (pre ++ q :: r) nm (pre.length : Int)) (G := ref4_attr_k4 n (pre ++ q :: r) nm (pre.length : Int)) (c := twc (neB q)) rfl (twc_cons _)
    (fun k => by rw [ref4_attr_l6, dF (by omega)]; rfl)
    (fun k p x r' hl => by
      have g : geti (pre ++ q :: r) (p.length : Int) = some x := by rw [hl, geti0]
      rw [ref4_attr_l6, dT (by rw [hl]; simp; omega), g, Option.bind_some, geti0, Option.bind_some]
      rfl) r (pre ++ [q]) n hL (by omega)
  rw [cond_true, w64_succ (by omega)]
  rw [List.length_append, List.length_singleton] at e
  rw [e]
  have hcat : r.takeWhile (neB q) ++ r.dropWhile (neB q) = r := List.takeWhile_append_dropWhile
  have hlen := congrArg List.length hcat
  rw [List.length_append] at hlen
  unfold twc ref4_attr_k4
  generalize r.takeWhile (neB q) = tk at hcat hlen ⊢
  generalize r.dropWhile (neB q) = dk at hcat hlen ⊢
  subst hcat
  have hcut := cutM_mid (pre ++ [q]) tk dk
  rw [← hL, List.length_append, List.length_singleton] at hcut
  have hts := textOf_size tk
  rw [w64_succ (by omega), hcut, Option.bind_some, ref_ub (by omega) (by omega), Option.bind_some]
  cases dk with
  | nil =>
    rw [dF (by simp; omega)]
    refine ⟨{ Name := nm, Value := ub (textOf tk) }, ?_⟩
    unfold ref4_attr_k5
    simp
    omega
  | cons y r' =>
    simp only [List.length_append, List.length_cons] at hn hb
    rw [dT (by simp; omega), w64_succ (by omega)]
    refine ⟨pre ++ [q] ++ tk ++ [y], by simp, ?_⟩
    unfold ref4_attr_k5
    simp
    omega
theorem ref_bare (nm : ByteArray) (hn : 4 * (pre.length + r.length) + 100 ≤ n) (hb : pre.length + r.length ≤ 1000000) :
    RAttr (pre ++ r) (ref4_attr_k3 n (pre ++ r) nm (pre.length : Int) false) (some ({ Name := nm, Value := ub (textOf (r.takeWhile bareB)) }, r.dropWhile bareB)) := by
  unfold ref4_attr_k3
  have e := scan (L := pre ++ r) (by simp; omega) (F := ref4_attr_l9 n (pre ++ r) nm (pre.length : Int)) (G := ref4_attr_k8 n (pre ++ r) nm (pre.length : Int)) (c := twc bareB) rfl (twc_cons _)
    (fun k => by rw [ref4_attr_l9, dF (by omega)]; rfl)
    (fun k p x r' hl => by
      have g : geti (pre ++ r) (p.length : Int) = some x := by rw [hl, geti0]
      rw [ref4_attr_l9, dT (by rw [hl]; simp; omega), g, Option.bind_some, ref_blank, Option.bind_some, Option.bind_some]
      unfold hdB bareB ref4_attr_k10
      simp only
      cases blankB x <;> cases decide (x ≠ 62) <;> rfl) r pre n rfl (by omega)
  rw [cond_false, e]
  have hcat : r.takeWhile bareB ++ r.dropWhile bareB = r := List.takeWhile_append_dropWhile
  have hlen := congrArg List.length hcat
  rw [List.length_append] at hlen
  unfold twc ref4_attr_k8
  generalize r.takeWhile bareB = tk at hcat hlen ⊢
  generalize r.dropWhile bareB = dk at hcat hlen ⊢
  subst hcat
  have hts := textOf_size tk
  rw [cutM_mid, Option.bind_some, ref_ub (by omega) (by omega), Option.bind_some]
  exact ⟨pre ++ tk, by simp, by simp⟩
theorem ref_attr (x : Int) (hn : 4 * (pre.length + (x :: r).length) + 100 ≤ n) (hb : pre.length + (x :: r).length ≤ 1000000) : RAttr (pre ++ x :: r) (ref4_attr n (pre ++ x :: r) (pre.length : Int)) (attrS x r) := by
  simp only [List.length_cons] at hn hb
  have hL : pre ++ x :: r = (pre ++ [x]) ++ r := by simp
  have e := scan (L := pre ++ x :: r) (by simp; omega) (F := ref4_attr_l11 n (pre ++ x :: r) (pre.length : Int)) (G := ref4_attr_k1 n (pre ++ x :: r) (pre.length : Int)) (c := twc nameB) rfl (twc_cons _)
    (fun k => by rw [ref4_attr_l11, dF (by omega)]; rfl)
    (fun k p y r' hl => by
      have g : geti (pre ++ x :: r) (p.length : Int) = some y := by rw [hl, geti0]
      rw [ref4_attr_l11, dT (by rw [hl]; simp; omega), g, Option.bind_some, ref_blank, Option.bind_some, Option.bind_some, Option.bind_some, Option.bind_some]
      unfold hdB nameB ref4_attr_k12
      simp only
      cases blankB y <;> cases decide (y ≠ 61) <;> cases decide (y ≠ 47) <;> cases decide (y ≠ 62) <;> rfl) r (pre ++ [x]) n hL (by omega)
  unfold ref4_attr attrS
  rw [w64_succ (by omega)]
  rw [List.length_append, List.length_singleton] at e
  rw [e]
  have hcat : r.takeWhile nameB ++ r.dropWhile nameB = r := List.takeWhile_append_dropWhile
  have hlen := congrArg List.length hcat
  rw [List.length_append] at hlen
  have hc2 := congrArg List.length (List.takeWhile_append_dropWhile (p := blankB) (l := r.dropWhile nameB))
  rw [List.length_append] at hc2
  unfold twc ref4_attr_k1
  generalize r.takeWhile nameB = tk at hcat hlen ⊢
  generalize r.dropWhile nameB = dk at hcat hlen hc2 ⊢
  subst hcat
  have hcut := cutM_mid pre (x :: tk) dk
  rw [List.cons_append, List.length_cons, show pre.length + (tk.length + 1) = pre.length + 1 + tk.length by omega] at hcut
  have hbl := ref_blanks (n := n) (pre := pre ++ x :: tk) (r := dk) (by simp; omega) (by omega)
  rw [List.append_assoc, List.cons_append, List.length_append, List.length_cons, show pre.length + (tk.length + 1) = pre.length + 1 + tk.length by omega] at hbl
  rw [hcut, Option.bind_some, ref_small _ (by simp; omega) (by simp; omega), Option.bind_some, hbl, Option.bind_some]
  generalize smallL (x :: tk) = nm
  have hcat2 : (pre ++ x :: tk ++ dk.takeWhile blankB) ++ dk.dropWhile blankB = pre ++ x :: (tk ++ dk) := by
    rw [List.append_assoc _ (dk.takeWhile blankB), List.takeWhile_append_dropWhile]; simp
  have hpl : (pre ++ x :: tk ++ dk.takeWhile blankB).length = pre.length + 1 + tk.length + (dk.takeWhile blankB).length := by
    simp only [List.length_append, List.length_cons]; omega
  rw [← hpl, ← hcat2]
  have hb3 : (pre ++ x :: tk ++ dk.takeWhile blankB).length + (dk.dropWhile blankB).length = pre.length + 1 + tk.length + dk.length := by omega
  generalize pre ++ x :: tk ++ dk.takeWhile blankB = pre2 at hb3 ⊢
  generalize dk.dropWhile blankB = r2 at hb3 ⊢
  cases r2 with
  | nil =>
    rw [dT (by simp)]
    exact ⟨pre2, rfl, rfl⟩
  | cons y r2 =>
    simp only [List.length_cons] at hb3
    rw [dF (by simp; omega), geti0, Option.bind_some]
    unfold ref4_attr_k2
    by_cases hy : y = 61
    · subst hy
      rw [decide_eq_false (by simp), cond_false, w64_succ (by omega)]
      have hbl2 := ref_blanks (n := n) (pre := pre2 ++ [61]) (r := r2) (by simp; omega) (by omega)
      rw [List.append_assoc, List.singleton_append, List.length_append, List.length_singleton] at hbl2
      rw [hbl2, Option.bind_some]
      have e61 : attrT nm (61 :: r2) = (valueS (r2.dropWhile blankB)).map fun q => ({ Name := nm, Value := ub (textOf q.1) }, q.2) := rfl
      rw [e61]
      have hc3 := congrArg List.length (List.takeWhile_append_dropWhile (p := blankB) (l := r2))
      rw [List.length_append] at hc3
      have hcat3 : (pre2 ++ [61] ++ r2.takeWhile blankB) ++ r2.dropWhile blankB = pre2 ++ 61 :: r2 := by
        rw [List.append_assoc _ (r2.takeWhile blankB), List.takeWhile_append_dropWhile]; simp
      have hpl3 : (pre2 ++ [61] ++ r2.takeWhile blankB).length = pre2.length + 1 + (r2.takeWhile blankB).length := by
        simp only [List.length_append, List.length_singleton]
      rw [← hpl3, ← hcat3]
      have hb4 : (pre2 ++ [61] ++ r2.takeWhile blankB).length + (r2.dropWhile blankB).length = pre2.length + 1 + r2.length := by omega
      generalize pre2 ++ [61] ++ r2.takeWhile blankB = pre3 at hb4 ⊢
      generalize r2.dropWhile blankB = r3 at hb4 ⊢
      cases r3 with
      | nil =>
        rw [dF (by simp)]
        exact ref_bare (r := []) nm (by omega) (by omega)
      | cons q r3 =>
        rw [dT (by simp; omega), geti0, Option.bind_some]
        have hv : valueS (q :: r3) = bif decide (q = 34) || decide (q = 39) then (match r3.dropWhile (neB q) with
          | [] => none
          | _ :: r' => some (r3.takeWhile (neB q), r')) else some ((q :: r3).takeWhile bareB, (q :: r3).dropWhile bareB) := rfl
        rw [hv]
        have hq := ref_quoted (n := n) (pre := pre3) (r := r3) nm q (by omega) (by omega)
        have hw := ref_bare (n := n) (pre := pre3) (r := q :: r3) nm (by omega) (by omega)
        cases h34 : decide (q = 34) with
        | true =>
          rw [cond_true, Bool.true_or, cond_true]
          exact hq
        | false =>
          rw [cond_false, Bool.false_or, Option.bind_some]
          cases h39 : decide (q = 39) with
          | true => exact hq
          | false => exact hw
    · rw [decide_eq_true hy, cond_true, attrT_else hy]
      exact ⟨pre2, rfl, rfl⟩
/-! A whole tag. -/
def tagC (c : Bool) (k : Nat) (r : List Int) (al : List api_Attr) : Option (List api_Attr × Bool × List Int) :=
  match skipBl c r with
  | (_, []) => none
  | (c, x :: r') => if x = 62 then some (al, c, r') else match attrS x r' with
    | none => none
    | some q => tagL k q.2 (addA al q.1)
theorem tagC_eq (k : Nat) (r : List Int) (al : List api_Attr) : tagL (k + 1) r al = tagC false k r al := rfl
theorem tagC_step {c : Bool} {k : Nat} {x : Int} {r : List Int} {al : List api_Attr} (h : (blankB x || decide (x = 47)) = true) : tagC c k (x :: r) al = tagC (decide (x = 47)) k r al := by
  unfold tagC
  rw [show skipBl c (x :: r) = skipBl (decide (x = 47)) r from by rw [skipBl, h, cond_true]]
theorem tagC_else {c : Bool} {k : Nat} {x : Int} {r : List Int} {al : List api_Attr} (h : (blankB x || decide (x = 47)) = false) : tagC c k (x :: r) al = if x = 62 then some (al, c, r) else match attrS x r with
    | none => none
    | some q => tagL k q.2 (addA al q.1) := by
  unfold tagC
  rw [show skipBl c (x :: r) = (c, x :: r) from by rw [skipBl, h, cond_false]]
def RTag (nm : ByteArray) (L : List Int) (m : Option (ref4_Token × Int × Bool)) : Option (List api_Attr × Bool × List Int) → Prop
  | none => ∃ t, m = some (t, (L.length : Int), false)
  | some q => ∃ pre', pre' ++ q.2.2 = L ∧ m = some ({ Kind := 0, Name := nm, Text := bs [], Attrs := q.1, Closed := q.2.1 }, (pre'.length : Int), true)
theorem ref_tag_l3 (nm : ByteArray) : ∀ (m : Nat) (r pre : List Int) (al : List api_Attr) (c : Bool) (k : Nat), r.length ≤ m → m + 1 ≤ k → al.length ≤ 64 → 4 * (pre.length + r.length) + 100 ≤ n → pre.length + r.length ≤ 1000000 →
    RTag nm (pre ++ r) (ref4_tag_l3 n (pre ++ r) nm k (pre.length : Int) al c) (tagC c (m + 1) r al)
  | m, [], pre, al, c, k, hm, hk, hal, hn, hb => by
    obtain ⟨k, rfl⟩ : ∃ i, k = i + 1 := ⟨k - 1, by omega⟩
    rw [ref4_tag_l3, dF (by simp)]
    unfold ref4_tag_k2
    rw [List.append_nil]
    exact ⟨_, rfl⟩
  | 0, x :: r, _, _, _, _, hm, _, _, _, _ => by simp at hm
  | m + 1, x :: r, pre, al, c, k, hm, hk, hal, hn, hb => by
    obtain ⟨k, rfl⟩ : ∃ i, k = i + 1 := ⟨k - 1, by omega⟩
    have hn' := hn
    have hb' := hb
    simp only [List.length_cons] at hm hn hb
    rw [ref4_tag_l3, dT (by simp; omega), geti0, Option.bind_some]
    by_cases hx : x = 62
    · subst hx
      rw [dT rfl, w64_succ (by omega), tagC_else (by decide), if_pos rfl]
      exact ⟨pre ++ [62], by simp, by simp⟩
    · rw [dF hx, Option.bind_some, ref_blank, Option.bind_some]
      have key : (bif blankB x then ref4_tag_k5 n (pre ++ x :: r) (pre.length : Int) al (ref4_tag_l3 n (pre ++ x :: r) nm k) true else (some x).bind fun x98 => ref4_tag_k5 n (pre ++ x :: r) (pre.length : Int) al (ref4_tag_l3 n (pre ++ x :: r) nm k) (decide (x98 = 47))) = ref4_tag_k5 n (pre ++ x :: r) (pre.length : Int) al (ref4_tag_l3 n (pre ++ x :: r) nm k) (blankB x || decide (x = 47)) := by
        cases blankB x <;> rfl
      rw [key]
      unfold ref4_tag_k5 ref4_tag_k4
      cases h : blankB x || decide (x = 47) with
      | true =>
        rw [cond_true, geti0, Option.bind_some, w64_succ (by omega), tagC_step h]
        have hl := ref_tag_l3 nm m r (pre ++ [x]) al (decide (x = 47)) k (by omega) (by omega) hal (by simp; omega) (by simp; omega)
        rw [List.append_assoc, List.singleton_append, List.length_append, List.length_singleton] at hl
        have hf : tagC (decide (x = 47)) (m + 1 + 1) r al = tagC (decide (x = 47)) (m + 1) r al := by
          have hsl := skipBl_len r (decide (x = 47))
          unfold tagC
          cases hs : skipBl (decide (x = 47)) r with
          | mk c1 r1 =>
            rw [hs] at hsl
            cases r1 with
            | nil => rfl
            | cons y r1 =>
              simp only [List.length_cons] at hsl ⊢
              by_cases hy : y = 62
              · rw [if_pos hy, if_pos hy]
              · rw [if_neg hy, if_neg hy]
                cases ha : attrS y r1 with
                | none => rfl
                | some q =>
                  have := attrS_len ha
                  simp only
                  exact tagL_fuel _ _ _ _ (by omega) (by omega)
        rw [hf]
        exact hl
      | false =>
        rw [cond_false, tagC_else h, if_neg hx]
        have ha := ref_attr (n := n) (pre := pre) (r := r) x hn' hb'
        cases hs : attrS x r with
        | none =>
          rw [hs] at ha
          obtain ⟨a, e⟩ := ha
          rw [e, Option.bind_some, ref_add al a hal (by omega), Option.bind_some]
          obtain ⟨k, rfl⟩ : ∃ i, k = i + 1 := ⟨k - 1, by omega⟩
          simp only
          rw [ref4_tag_l3, dF (by omega)]
          exact ⟨_, rfl⟩
        | some q =>
          rw [hs] at ha
          obtain ⟨pre', h1, e⟩ := ha
          have hql := attrS_len hs
          have hcl := congrArg List.length h1
          simp only [List.length_append, List.length_cons] at hcl
          rw [e, Option.bind_some, ref_add al q.1 hal (by omega), Option.bind_some]
          simp only
          have hl := ref_tag_l3 nm m q.2 pre' (addA al q.1) false k (by omega) (by omega) (addA_len _ hal) (by omega) (by omega)
          rw [h1] at hl
          rw [tagC_eq]
          exact hl
theorem ref_tag (hn : 4 * (pre.length + r.length) + 100 ≤ n) (hb : pre.length + r.length ≤ 1000000) : RTag (tagN r) (pre ++ r) (ref4_tag n (pre ++ r) (pre.length : Int)) (tagS r) := by
  unfold ref4_tag
  have e := scan (L := pre ++ r) (by simp; omega) (F := ref4_tag_l6 n (pre ++ r) (pre.length : Int)) (G := ref4_tag_k1 n (pre ++ r) (pre.length : Int)) (c := twc tagB) rfl (twc_cons _)
    (fun k => by rw [ref4_tag_l6, dF (by omega)]; rfl)
    (fun k p y r' hl => by
      have g : geti (pre ++ r) (p.length : Int) = some y := by rw [hl, geti0]
      rw [ref4_tag_l6, dT (by rw [hl]; simp; omega), g, Option.bind_some, ref_blank, Option.bind_some, Option.bind_some, Option.bind_some]
      unfold hdB tagB ref4_tag_k7
      simp only
      cases blankB y <;> cases decide (y ≠ 47) <;> cases decide (y ≠ 62) <;> rfl) r pre n rfl (by omega)
  rw [e]
  unfold tagN tagS twc ref4_tag_k1
  have hcat : r.takeWhile tagB ++ r.dropWhile tagB = r := List.takeWhile_append_dropWhile
  have hlen := congrArg List.length hcat
  rw [List.length_append] at hlen
  generalize r.takeWhile tagB = tk at hcat hlen ⊢
  generalize r.dropWhile tagB = dk at hcat hlen ⊢
  subst hcat
  rw [cutM_mid, Option.bind_some, ref_small _ (by omega) (by omega), Option.bind_some]
  have hl := ref_tag_l3 (n := n) (smallL tk) (tk ++ dk).length dk (pre ++ tk) [] false n (by omega) (by omega) (by simp) (by rw [List.length_append]; omega) (by rw [List.length_append]; omega)
  rw [List.append_assoc, List.length_append] at hl
  rw [tagC_eq]
  exact hl
end Go.Proofs.Ythmnohdlhlmmpaa
