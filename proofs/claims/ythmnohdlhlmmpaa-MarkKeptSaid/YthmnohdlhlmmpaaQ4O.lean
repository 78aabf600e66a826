/-
  Walks and laws of this seat; the base is the text Base.
-/
import Derived.Test.YthmnohdlhlmmpaaQ4N
namespace Go.Proofs.Ythmnohdlhlmmpaa
open Go.RowKit Go.Sl
variable {n : Nat} {pre r : List Int} {out : List mark_Token}
/-! References, whatever the steps. -/
theorem un_none (k : Nat) : un k [] = [] := by cases k <;> rfl
theorem un_fuel : ∀ (k k' : Nat) (l : List UInt8), l.length ≤ k → l.length ≤ k' → un k l = un k' l
  | 0, k', l, h, _ => by
    obtain rfl : l = [] := List.length_eq_zero_iff.1 (by omega)
    rw [un_none, un_none]
  | k + 1, 0, l, _, h => by
    obtain rfl : l = [] := List.length_eq_zero_iff.1 (by omega)
    rw [un_none, un_none]
  | k + 1, k' + 1, [], _, _ => rfl
  | k + 1, k' + 1, b :: l, h, h' => by
    simp only [List.length_cons] at h h'
    have ih := un_fuel k k' l (by omega) (by omega)
    unfold un
    by_cases hb : b = 38
    · rw [if_pos hb, if_pos hb]
      cases he : ent l with
      | none => simp only; rw [ih]
      | some q =>
        have := (ent_left he).1
        simp only
        rw [un_fuel k k' q.2 (by omega) (by omega)]
    · rw [if_neg hb, if_neg hb, ih]
/-- A text, its references read. -/
def ub (s : ByteArray) : ByteArray := bs (un s.size s.data.toList)
theorem mark_ub {s : ByteArray} (h : s.size + 20 ≤ n) (h2 : s.size ≤ 1000000000000) : mark_Unescape n s = some (ub s) := by
  have e := bs_data s
  have hl : s.data.toList.length = s.size := by rw [Array.length_toList]; rfl
  unfold ub
  generalize s.data.toList = l at e hl ⊢
  subst e
  rw [mark_Unescape_eq n l (by omega) (by omega), un_fuel n (bs l).size l (by omega) (by omega)]
theorem ref_ub {s : ByteArray} (h : s.size + 20 ≤ n) (h2 : s.size ≤ 1000000000000) : ref4_Unescape n s = some (ub s) := by
  have e := bs_data s
  have hl : s.data.toList.length = s.size := by rw [Array.length_toList]; rfl
  unfold ub
  generalize s.data.toList = l at e hl ⊢
  subst e
  rw [ref_Unescape n l (by omega) (by omega), un_fuel n (bs l).size l (by omega) (by omega)]
theorem enc_size (x : Int) : (Utf8.encode x).size ≤ 4 := by
  obtain ⟨b, t, h, h2⟩ := enc_head x
  have : (Utf8.encode x).size = (Utf8.encode x).data.toList.length := by rw [Array.length_toList]; rfl
  rw [this, h]; simp; omega
theorem textOf_fold : ∀ (xs : List Int) (s : ByteArray), xs.foldl (fun s r => s ++ Utf8.encode r) s = s ++ textOf xs
  | [], s => by simp [textOf]
  | x :: xs, s => by
    have e1 := textOf_fold xs (s ++ Utf8.encode x)
    have e2 := textOf_fold xs (ByteArray.empty ++ Utf8.encode x)
    unfold textOf
    rw [List.foldl_cons, List.foldl_cons, e1, e2]
    simp [ByteArray.append_assoc]
theorem textOf_cons (x : Int) (xs : List Int) : textOf (x :: xs) = Utf8.encode x ++ textOf xs := by
  have := textOf_fold xs (ByteArray.empty ++ Utf8.encode x)
  unfold textOf at this ⊢
  rw [List.foldl_cons, this]; simp
theorem textOf_size : ∀ xs : List Int, (textOf xs).size ≤ 4 * xs.length
  | [] => by simp [textOf]
  | x :: xs => by
    have := textOf_size xs
    have := enc_size x
    rw [textOf_cons, ByteArray.size_append, List.length_cons]; omega
/-! Attributes. -/
theorem has_l2 (al : List api_Attr) (nm : ByteArray) (hb : al.length ≤ 1000000) : ∀ (d j k : Nat), j + d = al.length → d + 1 ≤ k → mark_has_l2 al nm k (j : Int) = some ((al.drop j).any fun a => decide (a.Name = nm))
  | 0, j, k, hj, hk => by
    obtain ⟨k, rfl⟩ : ∃ i, k = i + 1 := ⟨k - 1, by omega⟩
    rw [mark_has_l2, dF (by omega), List.drop_eq_nil_of_le (by omega)]; rfl
  | d + 1, j, k, hj, hk => by
    obtain ⟨k, rfl⟩ : ∃ i, k = i + 1 := ⟨k - 1, by omega⟩
    have hlt : j < al.length := by omega
    rw [mark_has_l2, dT (by omega), geti_nat, List.getElem?_eq_getElem hlt, Option.bind_some, List.drop_eq_getElem_cons hlt]
    by_cases h : al[j].Name = nm
    · rw [dT h, List.any_cons, decide_eq_true h]; rfl
    · rw [dF h, w64_succ (by omega), has_l2 al nm hb d (j + 1) k (by omega) (by omega), List.any_cons, decide_eq_false h, Bool.false_or]
theorem has_eq (al : List api_Attr) (nm : ByteArray) (hb : al.length ≤ 1000000) (hn : al.length + 1 ≤ n) : mark_has n al nm = some (al.any fun a => decide (a.Name = nm)) :=
  has_l2 al nm hb al.length 0 n (by omega) hn
def addA (al : List api_Attr) (a : api_Attr) : List api_Attr := bif decide (al.length < 64) && !(al.any fun b => decide (b.Name = a.Name)) then al ++ [a] else al
theorem addA_len {al : List api_Attr} (a : api_Attr) (h : al.length ≤ 64) : (addA al a).length ≤ 64 := by
  unfold addA
  cases hc : decide (al.length < 64) && !(al.any fun b => decide (b.Name = a.Name)) with
  | false => exact h
  | true =>
    simp only [Bool.and_eq_true, decide_eq_true_eq] at hc
    simp only [cond_true, List.length_append, List.length_singleton]; omega
def nameB (x : Int) : Bool := !blankB x && (decide (x ≠ 61) && (decide (x ≠ 47) && decide (x ≠ 62)))
def tagB (x : Int) : Bool := !blankB x && (decide (x ≠ 47) && decide (x ≠ 62))
theorem tag1_eq (z : Int) : mark_cutter_tag_1 n z = some (tagB z) := by
  unfold mark_cutter_tag_1 mark_cutter_tag_1_k1 mark_blank tagB blankB
  rw [Option.bind_some]
  cases ((decide (z = 9)) || ((decide (z = 10)) || ((decide (z = 12)) || (decide (z = 32))))) <;> cases decide (z ≠ 47) <;> cases decide (z ≠ 62) <;> rfl
theorem tag2_eq (z : Int) : mark_cutter_tag_2 n z = some (nameB z) := by
  unfold mark_cutter_tag_2 mark_cutter_tag_2_k1 mark_blank nameB blankB
  rw [Option.bind_some]
  cases ((decide (z = 9)) || ((decide (z = 10)) || ((decide (z = 12)) || (decide (z = 32))))) <;> cases decide (z ≠ 61) <;> cases decide (z ≠ 47) <;> cases decide (z ≠ 62) <;> rfl
theorem blank_eq (z : Int) : mark_blank n z = some (blankB z) := rfl
/-- An attribute behind its name. -/
def attrT (nm : ByteArray) (r1 : List Int) : Option (api_Attr × List Int) :=
  match r1 with
  | 61 :: r2 => (valueS (r2.dropWhile blankB)).map fun q => ({ Name := nm, Value := ub (textOf q.1) }, q.2)
  | r1 => some ({ Name := nm, Value := bs [] }, r1)
theorem attrT_else {nm : ByteArray} {y : Int} {r : List Int} (h : y ≠ 61) : attrT nm (y :: r) = some ({ Name := nm, Value := bs [] }, y :: r) := by
  unfold attrT
  split
  · rename_i e; injection e with e _; exact absurd e h
  · rfl
/-- One attribute, from its first rune on. -/
def attrS (x : Int) (r : List Int) : Option (api_Attr × List Int) := attrT (smallL (x :: r.takeWhile nameB)) ((r.dropWhile nameB).dropWhile blankB)
def skipBl : Bool → List Int → Bool × List Int
  | c, [] => (c, [])
  | c, x :: r => bif blankB x || decide (x = 47) then skipBl (decide (x = 47)) r else (c, x :: r)
def tagL : Nat → List Int → List api_Attr → Option (List api_Attr × Bool × List Int)
  | 0, _, _ => none
  | k + 1, r, al => match skipBl false r with
    | (_, []) => none
    | (c, x :: r') => if x = 62 then some (al, c, r') else match attrS x r' with
      | none => none
      | some q => tagL k q.2 (addA al q.1)
theorem skipBl_len : ∀ (r : List Int) (c : Bool), (skipBl c r).2.length ≤ r.length
  | [], _ => Nat.le_refl _
  | x :: r, c => by
    unfold skipBl
    cases blankB x || decide (x = 47) with
    | true => have := skipBl_len r (decide (x = 47)); simp only [cond_true, List.length_cons]; omega
    | false => exact Nat.le_refl _
theorem dropWhile_len (p : Int → Bool) (r : List Int) : (r.dropWhile p).length ≤ r.length := (List.dropWhile_suffix p).length_le
theorem valueS_len {r : List Int} {q : List Int × List Int} (h : valueS r = some q) : q.1.length + q.2.length ≤ r.length := by
  cases r with
  | nil => cases h; simp
  | cons x r =>
    have hv : valueS (x :: r) = bif decide (x = 34) || decide (x = 39) then (match r.dropWhile (fun z => decide (z ≠ x)) with
      | [] => none
      | _ :: r' => some (r.takeWhile (fun z => decide (z ≠ x)), r')) else some ((x :: r).takeWhile bareB, (x :: r).dropWhile bareB) := rfl
    rw [hv] at h
    cases hq : decide (x = 34) || decide (x = 39) with
    | true =>
      rw [hq, cond_true] at h
      have hc := congrArg List.length (List.takeWhile_append_dropWhile (p := fun z => decide (z ≠ x)) (l := r))
      rw [List.length_append] at hc
      split at h
      · cases h
      · rename_i hd
        cases h
        rw [hd] at hc
        simp only [List.length_cons] at hc ⊢; omega
    | false =>
      rw [hq, cond_false] at h
      cases h
      have hc := congrArg List.length (List.takeWhile_append_dropWhile (p := bareB) (l := x :: r))
      rw [List.length_append] at hc
      simp only [List.length_cons] at hc ⊢; omega
theorem attrS_len {x : Int} {r : List Int} {q : api_Attr × List Int} (h : attrS x r = some q) : q.2.length ≤ r.length := by
  have h1 := dropWhile_len nameB r
  have h2 := dropWhile_len blankB (r.dropWhile nameB)
  unfold attrS attrT at h
  split at h
  · rename_i r2 hr2
    obtain ⟨p, hp, rfl⟩ := Option.map_eq_some_iff.1 h
    have h3 := valueS_len hp
    have h4 := dropWhile_len blankB r2
    rw [hr2] at h2
    simp only [List.length_cons] at h2 ⊢; omega
  · cases h; simp only; omega
theorem tagL_fuel : ∀ (k k' : Nat) (r : List Int) (al : List api_Attr), r.length + 1 ≤ k → r.length + 1 ≤ k' → tagL k r al = tagL k' r al
  | 0, _, _, _, h, _ => by omega
  | _ + 1, 0, _, _, _, h => by omega
  | k + 1, k' + 1, r, al, h, h' => by
    unfold tagL
    have hl := skipBl_len r false
    cases hs : skipBl false r with
    | mk c r1 =>
      rw [hs] at hl
      cases r1 with
      | nil => rfl
      | cons x r1 =>
        simp only [List.length_cons] at hl ⊢
        by_cases hx : x = 62
        · rw [if_pos hx, if_pos hx]
        · rw [if_neg hx, if_neg hx]
          cases ha : attrS x r1 with
          | none => rfl
          | some q =>
            have := attrS_len ha
            simp only
            exact tagL_fuel k k' _ _ (by omega) (by omega)
end Go.Proofs.Ythmnohdlhlmmpaa
