/-
  Walks and laws of this seat; the base is the text Base.
-/
import Derived.Test.YthmnohdlhlmmpaaQ4JB
import Derived.Test.YthmnohdlhlmmpaaQ4H
import Derived.Test.YthmnohdlhlmmpaaL4vj
namespace Go.Proofs.Ythmnohdlhlmmpaa
open Go.RowKit Go.Sl
variable {n : Nat}
theorem joins_l3 (t : mark_Token) (ts : List mark_Token) (h : ∀ t ∈ ts, t.Attrs.length ≤ 1000000 ∧ t.Attrs.length + 1 ≤ n) (hl : ts.length ≤ 1000000000) (hkn : law4_known n = some true) : ∀ (d j k : Nat), j + d = ts.length → d + 1 ≤ k → law4_MarkJoins_l3 n (t :: ts) ts k (j : Int) = some true
  | 0, j, k, hj, hk => by
    obtain ⟨k, rfl⟩ : ∃ i, k = i + 1 := ⟨k - 1, by omega⟩
    rw [law4_MarkJoins_l3, dF (by omega)]
    unfold law4_MarkJoins_k2
    rw [hkn]; rfl
  | d + 1, j, k, hj, hk => by
    obtain ⟨k, rfl⟩ : ∃ i, k = i + 1 := ⟨k - 1, by omega⟩
    have hlt : j < ts.length := by omega
    obtain ⟨h1, h2⟩ := h ts[j] (List.getElem_mem hlt)
    rw [law4_MarkJoins_l3, dT (by omega), w64_succ (by omega), geti_nat, geti_nat, List.getElem?_cons_succ, List.getElem?_eq_getElem hlt, Option.bind_some, Option.bind_some, law4_same_true _ h1 h2, Option.bind_some, Bool.not_true, cond_false]
    exact joins_l3 t ts h hl hkn d (j + 1) k (by omega) (by omega)
theorem law4_MarkJoins_true {s : ByteArray} (_ : Sstr s) : ∃ fuel, law4_MarkJoins fuel s = some true := by
  refine ⟨20000000 + 60, ?_⟩
  rw [bs_data s]
  generalize s.data.toList = l
  unfold law4_MarkJoins
  have h := keep_Few_bs (20000000 + 60) l 500
  rw [show ((500 : Nat) : Int) = 500 from rfl] at h
  have hl : (l.take 500).length ≤ 500 := by rw [List.length_take]; omega
  rw [h, Option.bind_some]
  generalize l.take 500 = l at hl ⊢
  have hr := runes_len l
  rw [addS_bs (by simp; omega), Option.bind_some, runesM_bs (by simp; omega), Option.bind_some]
  simp only [List.cons_append, List.nil_append]
  rw [runes_cons (by decide), runes_cons (by decide), runes_cons (by decide), show (((60 : UInt8).toNat : Nat) : Int) = 60 from rfl, show (((105 : UInt8).toNat : Nat) : Int) = 105 from rfl, show (((62 : UInt8).toNat : Nat) : Int) = 62 from rfl]
  generalize hxs : runesIn (bs l) = xs at hr
  rw [mark_Tokens_eq _ (by simp; omega) (by simp; omega), Option.bind_some, runesM_bs (by omega), Option.bind_some, hxs, mark_Tokens_eq _ (by omega) (by omega), Option.bind_some]
  have hsm : smallL [105] = bs [105] := by decide +kernel
  rw [tokS_open (x := 105) (by decide) (by decide) (by rw [hsm]; decide), hsm, tokS_fuel (60 :: 105 :: 62 :: xs).length (xs.length + 1) xs (by simp) (by omega)]
  have ht := tokS_len (xs.length + 1) xs
  have hok := tokS_ok (xs.length + 1) xs (by omega)
  generalize tokS (xs.length + 1) xs = ts at ht hok ⊢
  rw [dF (by rw [w64_succ (by omega)]; simp)]
  rw [show geti (tagTok 2 (bs [105]) [] false :: ts) 0 = some (tagTok 2 (bs [105]) [] false) from rfl, Option.bind_some, dF (by decide), Option.bind_some]
  rw [show decide ((tagTok 2 (bs [105]) [] false).Name ≠ bs [105]) = false from by decide]
  unfold law4_MarkJoins_k1
  rw [cond_false]
  refine joins_l3 _ ts (fun t ht => ?_) (by omega) (known_true 20000000) ts.length 0 _ (by omega) (by omega)
  have hal : t.Attrs.length ≤ 64 := by
    rcases hok t ht with ⟨_, _, _, h0, _⟩ | ⟨_, _, _, _, h0, _⟩
    · rw [h0]; simp
    · exact h0.1
  omega
end Go.Proofs.Ythmnohdlhlmmpaa
