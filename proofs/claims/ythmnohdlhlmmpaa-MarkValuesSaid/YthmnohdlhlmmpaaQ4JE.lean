/-
  Walks and laws of this seat; the base is the text Base.
-/
import Derived.Test.YthmnohdlhlmmpaaQ4JB
import Derived.Test.YthmnohdlhlmmpaaQ4H
import Derived.Test.YthmnohdlhlmmpaaL4vv
namespace Go.Proofs.Ythmnohdlhlmmpaa
open Go.RowKit Go.Sl
variable {n : Nat}
def esc1 (x : Int) : List Int := if x = 38 then [38, 97, 109, 112, 59] else if x = 34 then [38, 113, 117, 111, 116, 59] else [x]
def escL (xs : List Int) : List Int := xs.flatMap esc1
theorem addS_eq {s t : ByteArray} (h : s.size + t.size ≤ 1000000) : addS s t = some (s ++ t) := by
  unfold addS
  rw [decide_eq_true (by omega)]; rfl
theorem values_l3 (s : ByteArray) : ∀ (d i k : Nat) (acc : ByteArray), s.size - i ≤ d → d + 1 ≤ k → acc.size + 6 * d ≤ 1000000 →
    law4_MarkValues_l3 n s k acc i = law4_MarkValues_k1 n s (acc ++ textOf (escL (runesFr s d i)))
  | 0, i, k, acc, hd, hk, ha => by
    obtain ⟨k, rfl⟩ : ∃ i, k = i + 1 := ⟨k - 1, by omega⟩
    rw [law4_MarkValues_l3, dF (by omega)]
    simp [runesFr, escL, textOf]
  | d + 1, i, k, acc, hd, hk, ha => by
    obtain ⟨k, rfl⟩ : ∃ i, k = i + 1 := ⟨k - 1, by omega⟩
    rw [law4_MarkValues_l3, runesFr]
    by_cases h : i < s.size
    · rw [dT h, if_pos h]
      have hw : 1 ≤ (Utf8.decode s i).2 := by rw [decode_list]; exact decL_width _
      have go : ∀ t : List Int, t = esc1 ((Utf8.decode s i).1 : Int) → (textOf t).size ≤ 6 → ((addS acc (textOf t)).bind fun x => law4_MarkValues_k4 s i (law4_MarkValues_l3 n s k) x) = law4_MarkValues_k1 n s (acc ++ textOf (escL (((Utf8.decode s i).1 : Int) :: runesFr s d (i + (Utf8.decode s i).2)))) := fun t ht hts => by
        unfold escL
        rw [List.flatMap_cons, ← ht, textOf_append, addS_eq (by omega), Option.bind_some]
        unfold law4_MarkValues_k4
        rw [values_l3 s d _ k _ (by omega) (by omega) (by rw [ByteArray.size_append]; omega), ByteArray.append_assoc]
        rfl
      by_cases h38 : ((Utf8.decode s i).1 : Int) = 38
      · rw [dT h38]
        have := go [38, 97, 109, 112, 59] (by unfold esc1; rw [if_pos h38]) (by decide +kernel)
        rw [show textOf [38, 97, 109, 112, 59] = bs [38, 97, 109, 112, 59] from by decide +kernel] at this
        exact this
      · rw [dF h38]
        by_cases h34 : ((Utf8.decode s i).1 : Int) = 34
        · rw [dT h34]
          have := go [38, 113, 117, 111, 116, 59] (by unfold esc1; rw [if_neg h38, if_pos h34]) (by decide +kernel)
          rw [show textOf [38, 113, 117, 111, 116, 59] = bs [38, 113, 117, 111, 116, 59] from by decide +kernel] at this
          exact this
        · rw [dF h34]
          have hsz := enc_size ((Utf8.decode s i).1 : Int)
          have := go [((Utf8.decode s i).1 : Int)] (by unfold esc1; rw [if_neg h38, if_neg h34]) (by rw [textOf_one]; omega)
          rw [textOf_one] at this
          exact this
    · rw [dF h, if_neg h]
      simp [escL, textOf]
/-! References read again. -/
def U (l : List UInt8) : List UInt8 := un l.length l
theorem U_cons {b : UInt8} (h : b ≠ 38) (l : List UInt8) : U (b :: l) = b :: U l := by
  unfold U
  rw [List.length_cons, un, if_neg h]
theorem U_append : ∀ (p l : List UInt8), (38 : UInt8) ∉ p → U (p ++ l) = p ++ U l
  | [], _, _ => rfl
  | b :: p, l, h => by
    rw [List.cons_append, U_cons (fun e => h (by rw [e]; simp)), U_append p l fun e => h (List.mem_cons_of_mem _ e)]; rfl
theorem U_ent {l r t : List UInt8} (h : ent l = some (t, r)) : U (38 :: l) = t ++ U r := by
  unfold U
  have := (ent_left h).1
  rw [List.length_cons, un, if_pos rfl, h]
  simp only at this ⊢
  rw [un_fuel _ r.length r (by omega) (by omega)]
def by_ (xs : List Int) : List UInt8 := (textOf xs).data.toList
theorem by_append (a b : List Int) : by_ (a ++ b) = by_ a ++ by_ b := by
  unfold by_
  rw [textOf_append, ByteArray.data_append, Array.toList_append]
theorem enc38 {x : Int} (hv : Utf8.valid x = true) (h : x ≠ 38) : (38 : UInt8) ∉ by_ [x] := fun hm => by
  obtain ⟨c, rfl⟩ : ∃ c : Nat, x = c := ⟨x.toNat, by simp [Utf8.valid] at hv; omega⟩
  have e := byL_encode hv
  have hm2 : 38 ∈ byL (Utf8.encode (c : Int)) := by
    unfold by_ at hm
    rw [textOf_one] at hm
    unfold byL
    exact List.mem_map.2 ⟨38, hm, rfl⟩
  rw [e] at hm2
  unfold encL at hm2
  split at hm2
  · simp at hm2; omega
  · split at hm2
    · simp at hm2; omega
    · split at hm2
      · simp at hm2; omega
      · simp at hm2; omega
theorem U_esc : ∀ xs : List Int, (∀ x ∈ xs, Utf8.valid x = true) → U (by_ (escL xs)) = by_ xs
  | [], _ => rfl
  | x :: xs, h => by
    have ih := U_esc xs fun y hy => h y (by simp [hy])
    unfold escL
    rw [List.flatMap_cons, by_append, show x :: xs = [x] ++ xs from rfl, by_append]
    rw [show by_ (xs.flatMap esc1) = by_ (escL xs) from rfl]
    by_cases h38 : x = 38
    · subst h38
      rw [show by_ (esc1 38) = [38, 97, 109, 112, 59] from by decide +kernel, show by_ [38] = [38] from by decide +kernel]
      have e := U_ent (l := [97, 109, 112, 59] ++ by_ (escL xs)) (t := [38]) (r := by_ (escL xs)) rfl
      rw [ih] at e
      exact e
    · by_cases h34 : x = 34
      · subst h34
        rw [show by_ (esc1 34) = [38, 113, 117, 111, 116, 59] from by decide +kernel, show by_ [34] = [34] from by decide +kernel]
        have e := U_ent (l := [113, 117, 111, 116, 59] ++ by_ (escL xs)) (t := [34]) (r := by_ (escL xs)) rfl
        rw [ih] at e
        exact e
      · rw [show esc1 x = [x] from by unfold esc1; rw [if_neg h38, if_neg h34], U_append _ _ (enc38 (h x (by simp)) h38), ih]
theorem ub_esc (xs : List Int) (h : ∀ x ∈ xs, Utf8.valid x = true) : ub (textOf (escL xs)) = textOf xs := by
  unfold ub
  have e := U_esc xs h
  unfold U by_ at e
  have hl : (textOf (escL xs)).data.toList.length = (textOf (escL xs)).size := by rw [Array.length_toList]; rfl
  rw [hl] at e
  rw [e]
theorem esc_valid {xs : List Int} (h : ∀ x ∈ xs, Utf8.valid x = true) : ∀ x ∈ escL xs, Utf8.valid x = true := by
  intro y hy
  obtain ⟨x, hx, hy⟩ := List.mem_flatMap.1 hy
  unfold esc1 at hy
  split at hy
  · simp only [List.mem_cons, List.mem_nil_iff, or_false] at hy
    rcases hy with rfl | rfl | rfl | rfl | rfl <;> decide
  · split at hy
    · simp only [List.mem_cons, List.mem_nil_iff, or_false] at hy
      rcases hy with rfl | rfl | rfl | rfl | rfl | rfl <;> decide
    · rw [List.mem_singleton.1 hy]; exact h x hx
theorem esc_34 (xs : List Int) : ∀ x ∈ escL xs, decide (x ≠ 34) = true := by
  intro y hy
  obtain ⟨x, hx, hy⟩ := List.mem_flatMap.1 hy
  unfold esc1 at hy
  split at hy
  · simp only [List.mem_cons, List.mem_nil_iff, or_false] at hy
    rcases hy with rfl | rfl | rfl | rfl | rfl <;> decide
  · split at hy
    · simp only [List.mem_cons, List.mem_nil_iff, or_false] at hy
      rcases hy with rfl | rfl | rfl | rfl | rfl | rfl <;> decide
    · rename_i h34
      rw [List.mem_singleton.1 hy]
      exact decide_eq_true h34
theorem esc_len (xs : List Int) : (escL xs).length ≤ 6 * xs.length := by
  induction xs with
  | nil => simp [escL]
  | cons x xs ih =>
    have : (esc1 x).length ≤ 6 := by unfold esc1; repeat' split
                                     all_goals simp
    unfold escL at ih ⊢
    rw [List.flatMap_cons, List.length_append, List.length_cons]; omega
def frame (E : List Int) : List Int := [60, 105, 32, 113, 61, 34] ++ E ++ [34, 32, 119, 32, 61, 32, 39] ++ [49] ++ [39, 62]
def aQ (v : ByteArray) : api_Attr := { Name := bs [113], Value := v }
def aW : api_Attr := { Name := bs [119], Value := bs [49] }
theorem tokS_frame (E : List Int) (h34 : ∀ x ∈ E, decide (x ≠ 34) = true) (k : Nat) : tokS (k + 1) (frame E) = [tagTok 2 (bs [105]) [aQ (ub (textOf E)), aW] false] := by
  have e0 : frame E = 60 :: 105 :: 32 :: 113 :: 61 :: 34 :: (E ++ 34 :: [32, 119, 32, 61, 32, 39, 49, 39, 62]) := by simp [frame]
  have hN : tagN (105 :: 32 :: 113 :: 61 :: 34 :: (E ++ 34 :: [32, 119, 32, 61, 32, 39, 49, 39, 62])) = bs [105] := by
    unfold tagN
    rw [List.takeWhile_cons, if_pos (by decide), List.takeWhile_cons, if_neg (by decide)]
    decide +kernel
  have hq : attrS 113 (61 :: 34 :: (E ++ 34 :: [32, 119, 32, 61, 32, 39, 49, 39, 62])) = some (aQ (ub (textOf E)), [32, 119, 32, 61, 32, 39, 49, 39, 62]) := by
    unfold attrS
    rw [List.takeWhile_cons, if_neg (by decide), List.dropWhile_cons, if_neg (by decide), List.dropWhile_cons, if_neg (by decide)]
    have e61 : ∀ (nm : ByteArray) (r2 : List Int), attrT nm (61 :: r2) = (valueS (r2.dropWhile blankB)).map fun q => ({ Name := nm, Value := ub (textOf q.1) }, q.2) := fun _ _ => rfl
    rw [e61, List.dropWhile_cons, if_neg (by decide)]
    have hv : ∀ r : List Int, valueS (34 :: r) = (match r.dropWhile (fun z => decide (z ≠ 34)) with
      | [] => none
      | _ :: r' => some (r.takeWhile (fun z => decide (z ≠ 34)), r')) := fun _ => rfl
    rw [hv, List.takeWhile_append_of_pos h34, List.dropWhile_append_of_pos h34, List.takeWhile_cons, if_neg (by decide), List.dropWhile_cons, if_neg (by decide), List.append_nil]
    simp only [Option.map_some]
    rw [show smallL [113] = bs [113] from by decide +kernel]; rfl
  have hw : attrS 119 [32, 61, 32, 39, 49, 39, 62] = some (aW, [62]) := by
    unfold attrS
    rw [show ([32, 61, 32, 39, 49, 39, 62] : List Int).takeWhile nameB = [] from by decide, show (([32, 61, 32, 39, 49, 39, 62] : List Int).dropWhile nameB).dropWhile blankB = [61, 32, 39, 49, 39, 62] from by decide]
    have e61 : ∀ (nm : ByteArray) (r2 : List Int), attrT nm (61 :: r2) = (valueS (r2.dropWhile blankB)).map fun q => ({ Name := nm, Value := ub (textOf q.1) }, q.2) := fun _ _ => rfl
    rw [e61, show valueS (([32, 39, 49, 39, 62] : List Int).dropWhile blankB) = some ([49], [62]) from by decide]
    simp only [Option.map_some]
    rw [show smallL [119] = bs [119] from by decide +kernel, show ub (textOf [49]) = bs [49] from by decide +kernel]; rfl
  have hT : tagS (105 :: 32 :: 113 :: 61 :: 34 :: (E ++ 34 :: [32, 119, 32, 61, 32, 39, 49, 39, 62])) = some ([aQ (ub (textOf E)), aW], false, []) := by
    unfold tagS
    rw [List.dropWhile_cons, if_pos (by decide), List.dropWhile_cons, if_neg (by decide)]
    rw [tagL_fuel _ ((E.length + 20) + 1 + 1 + 1) _ _ (by simp) (by simp)]
    rw [tagC_eq, tagC_step (by decide), tagC_else (by decide), if_neg (by decide), hq]
    simp only
    rw [tagC_eq, tagC_step (by decide), tagC_else (by decide), if_neg (by decide), hw]
    simp only
    rw [tagC_eq, tagC_else (by decide), if_pos rfl]
    have h2 : addA (addA [] (aQ (ub (textOf E)))) aW = [aQ (ub (textOf E)), aW] := by
      have h1 : addA [] (aQ (ub (textOf E))) = [aQ (ub (textOf E))] := rfl
      rw [h1]
      unfold addA
      have : ([aQ (ub (textOf E))].any fun b => decide (b.Name = aW.Name)) = false := by
        show (decide (bs [113] = bs [119]) || false) = false
        decide
      rw [this]; rfl
    rw [h2]
  rw [e0, tokS]
  have hb : ∀ r, beginsB (60 :: 105 :: r) = true := fun r => rfl
  rw [hb, Bool.not_true, cond_false]
  simp only [List.getElem?_cons_zero, Option.getD_some]
  rw [show letterB 105 = true from by decide, cond_true, hT]
  simp only
  rw [hN, show isRawB (bs [105]) = false from by decide, cond_false]
  cases k <;> rfl
theorem law4_MarkValues_true {s : ByteArray} (_ : Sstr s) : ∃ fuel, law4_MarkValues fuel s = some true := by
  refine ⟨20000000 + 60, ?_⟩
  rw [bs_data s]
  generalize s.data.toList = l
  unfold law4_MarkValues
  have h := keep_Few_bs (20000000 + 60) l 300
  rw [show ((300 : Nat) : Int) = 300 from rfl] at h
  have hl : (l.take 300).length ≤ 300 := by rw [List.length_take]; omega
  rw [h, Option.bind_some]
  generalize l.take 300 = l at hl ⊢
  have hkn : law4_known (20000000 + 60) = some true := known_true 20000000
  have hn : 20000000 ≤ 20000000 + 60 := by omega
  generalize 20000000 + 60 = n at hkn hn ⊢
  have hrl := runes_len l
  have hval := runesIn_valid (bs l)
  rw [runesM_bs (by omega), Option.bind_some]
  by_cases htx : textOf (runesIn (bs l)) = bs l
  · rw [dF (fun e => e htx), values_l3 (bs l) (bs l).size 0 n (bs []) (by omega) (by rw [bs_size]; omega) (by rw [bs_size, bs_size]; simp; omega)]
    rw [show runesFr (bs l) (bs l).size 0 = runesIn (bs l) from rfl]
    generalize runesIn (bs l) = xs at hrl hval htx ⊢
    rw [show bs [] ++ textOf (escL xs) = textOf (escL xs) from ByteArray.empty_append]
    have hts := textOf_size (escL xs)
    have hel := esc_len xs
    have hub := ub_esc xs hval
    have hfr := tokS_frame (escL xs) (esc_34 xs) (frame (escL xs)).length
    have hfv : ∀ x ∈ frame (escL xs), Utf8.valid x = true := by
      have he := esc_valid hval
      intro x hx
      unfold frame at hx
      simp only [List.mem_append] at hx
      rcases hx with (((hx | hx) | hx) | hx) | hx
      · simp only [List.mem_cons, List.mem_nil_iff, or_false] at hx
        rcases hx with rfl | rfl | rfl | rfl | rfl | rfl <;> decide
      · exact he x hx
      · simp only [List.mem_cons, List.mem_nil_iff, or_false] at hx
        rcases hx with rfl | rfl | rfl | rfl | rfl | rfl | rfl <;> decide
      · simp only [List.mem_cons, List.mem_nil_iff, or_false] at hx
        rcases hx with rfl; decide
      · simp only [List.mem_cons, List.mem_nil_iff, or_false] at hx
        rcases hx with rfl | rfl <;> decide
    have hft : textOf (frame (escL xs)) = bs [60, 105, 32, 113, 61, 34] ++ textOf (escL xs) ++ bs [34, 32, 119, 32, 61, 32, 39] ++ bs [49] ++ bs [39, 62] := by
      unfold frame
      rw [textOf_append, textOf_append, textOf_append, textOf_append]
      rw [show textOf [60, 105, 32, 113, 61, 34] = bs [60, 105, 32, 113, 61, 34] from by decide +kernel, show textOf [34, 32, 119, 32, 61, 32, 39] = bs [34, 32, 119, 32, 61, 32, 39] from by decide +kernel, show textOf [49] = bs [49] from by decide +kernel, show textOf [39, 62] = bs [39, 62] from by decide +kernel]
    have hfl : (frame (escL xs)).length ≤ 2000 := by unfold frame; simp; omega
    unfold law4_MarkValues_k1
    have z1 : (bs [60, 105, 32, 113, 61, 34]).size = 6 := rfl
    have z2 : (bs [34, 32, 119, 32, 61, 32, 39]).size = 7 := rfl
    have z3 : (bs [49]).size = 1 := rfl
    have z4 : (bs [39, 62]).size = 2 := rfl
    rw [addS_eq (by omega), Option.bind_some, addS_eq (by rw [ByteArray.size_append]; omega), Option.bind_some, addS_eq (by rw [ByteArray.size_append, ByteArray.size_append]; omega), Option.bind_some, addS_eq (by rw [ByteArray.size_append, ByteArray.size_append, ByteArray.size_append]; omega), Option.bind_some, ← hft]
    have hrm : runesM (textOf (frame (escL xs))) = some (frame (escL xs)) := by
      unfold runesM
      have := textOf_size (frame (escL xs))
      rw [decide_eq_true (by omega), runesIn_textOf hfv]; rfl
    rw [hrm, Option.bind_some, mark_Tokens_eq _ (by omega) (by omega), Option.bind_some, hfr, hub, htx, dT (by simp)]
    have g : geti [tagTok 2 (bs [105]) [aQ (bs l), aW] false] 0 = some (tagTok 2 (bs [105]) [aQ (bs l), aW] false) := rfl
    have g0 : geti (tagTok 2 (bs [105]) [aQ (bs l), aW] false).Attrs 0 = some (aQ (bs l)) := rfl
    have g1 : geti (tagTok 2 (bs [105]) [aQ (bs l), aW] false).Attrs 1 = some aW := rfl
    rw [g, Option.bind_some, dT (by simp [tagTok]), Option.bind_some, g0, Option.bind_some, Option.bind_some, g1, Option.bind_some, hkn]
    have h1 : (decide ((aQ (bs l)).Name = bs [113]) && (decide ((aQ (bs l)).Value = bs l) && true)) = true := by
      unfold aQ
      simp
    have h2 : (decide (aW.Name = bs [119]) && (decide (aW.Value = bs [49]) && true)) = true := by decide
    rw [h1, h2]; rfl
  · rw [dT htx, hkn]; rfl
end Go.Proofs.Ythmnohdlhlmmpaa
