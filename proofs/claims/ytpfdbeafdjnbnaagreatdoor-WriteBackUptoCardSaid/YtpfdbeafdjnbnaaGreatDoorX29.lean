/-
  Walks and laws of this seat.
-/
import Derived.Test.YtpfdbeafdjnbnaaGreatDoorL7ct
import Derived.Test.YtpfdbeafdjnbnaaGreatDoorX28
import Derived.Test.YtpfdbeafdjnbnaaGreatDoorX1
import Derived.Test.YtpfdbeafdjnbnaaGreatDoorX21
import Derived.Test.YtpfdbeafdjnbnaaGreatDoorW7
namespace Go.Proofs.YtpfdbeafdjnbnaaGreatDoor
set_option linter.unusedVariables false
set_option linter.unusedSimpArgs false
set_option linter.unusedSectionVars false
section
open Go.RowKit Go.Sl
theorem dT {p : Prop} [Decidable p] (h : p) : decide p = true := decide_eq_true h
theorem dF {p : Prop} [Decidable p] (h : ¬ p) : decide p = false := decide_eq_false h
instance memD (x : ByteArray) (l : List ByteArray) : Decidable (x ∈ l) := decidable_of_iff ((l.any fun y => decide (x = y)) = true) (by simp)
theorem idx_l2 (l : List ByteArray) (x : ByteArray) (hl : l.length ≤ 1000000) : ∀ (d j k : Nat), j + d = l.length → d + 1 ≤ k → ∃ r, zas l x k (j : Int) = some r ∧ (0 ≤ r ↔ x ∈ l.drop j)
  | 0, j, k, hj, hk => by
    obtain ⟨k, rfl⟩ : ∃ i, k = i + 1 := ⟨k - 1, by omega⟩
    rw [zas, dF (by omega)]
    refine ⟨-1, rfl, ?_⟩
    rw [List.drop_eq_nil_of_le (by omega)]; simp
  | d + 1, j, k, hj, hk => by
    obtain ⟨k, rfl⟩ : ∃ i, k = i + 1 := ⟨k - 1, by omega⟩
    have hdr : l.drop j = l[j] :: l.drop (j + 1) := List.drop_eq_getElem_cons (by omega)
    rw [zas, dT (by omega), zbr, List.getElem?_eq_getElem (by omega), Option.bind_some, hdr]
    by_cases h : x = l[j]
    · rw [dT h]
      exact ⟨_, rfl, iff_of_true (by omega) (List.mem_cons.2 (.inl h))⟩
    · rw [dF h, zgb (by omega)]
      obtain ⟨r, e1, e2⟩ := idx_l2 l x hl d (j + 1) k (by omega) (by omega)
      exact ⟨r, e1, by rw [e2, List.mem_cons, or_iff_right h]⟩
section
variable {n : Nat}
theorem zrp (x : ByteArray) (l : List ByteArray) (hl : l.length ≤ 100) (hn : 200 ≤ n) : zat n l x = some (decide (x ∈ l)) := by
  unfold zat zci
  obtain ⟨r, e1, e2⟩ := idx_l2 l x (by omega) l.length 0 n (by omega) (by omega)
  rw [show (0 : Int) = ((0 : Nat) : Int) from rfl, e1, Option.bind_some]
  congr 1
  rw [List.drop_zero] at e2
  exact decide_eq_decide.2 e2
def knownL : List ByteArray := [bs [97], bs [98], bs [98,114], bs [100,105,118], bs [101,109], bs [104,49], bs [104,114], bs [105], bs [105,109,103], bs [108,105], bs [112], bs [115,112,97,110], bs [116,97,98,108,101], bs [116,100], bs [116,114], bs [117], bs [117,108]]
def voidL : List ByteArray := [bs [98,114], bs [104,114], bs [105,109,103], bs [105,110,112,117,116], bs [108,105,110,107], bs [109,101,116,97]]
def blockL : List ByteArray := [bs [100,105,118], bs [104,49], bs [108,105], bs [112], bs [116,97,98,108,101], bs [117,108]]
def tabL : List ByteArray := [bs [116,97,98,108,101], bs [116,114], bs [117,108]]
theorem known_eq (x : ByteArray) (hn : 200 ≤ n) : zio n x = some (decide (x ∈ knownL)) := by
  unfold zio
  rw [zrp x _ (by decide) hn, Option.bind_some]; rfl
theorem zuc (x : ByteArray) (hn : 200 ≤ n) : zgc n x = some (decide (x ∈ voidL)) := by
  unfold zgc zid
  rw [zrp x _ (by decide) hn, Option.bind_some]; rfl
def withinW (s : ByteArray) : ByteArray := if s = bs [116,114] then bs [116,97,98,108,101] else if s = bs [116,100] then bs [116,114] else if s = bs [108,105] then bs [117,108] else bs []
theorem zqv (x : ByteArray) : zep n x = some (withinW x) := by
  unfold zep withinW
  by_cases h1 : x = bs [116,114]
  · rw [dT h1, if_pos h1]; rfl
  rw [dF h1, if_neg h1]
  by_cases h2 : x = bs [116,100]
  · rw [dT h2, if_pos h2]; rfl
  rw [dF h2, if_neg h2]
  by_cases h3 : x = bs [108,105]
  · rw [dT h3, if_pos h3]; rfl
  rw [dF h3, if_neg h3]; rfl
theorem ztc (s : ByteArray) : ∀ k i, s.size - i < k → ∃ b, zb9 s k i = some b
  | 0, i, h => by omega
  | k + 1, i, h => by
    rw [zb9]
    by_cases hi : i < s.size
    · rw [dT hi, cond_true]
      generalize (bif _ then _ else _ : Bool) = c
      cases c with
      | true => exact ⟨false, rfl⟩
      | false =>
        have hw : 1 ≤ (Utf8.decode s i).2 := by rw [ziy]; exact zl3 _
        exact ztc s k (i + (Utf8.decode s i).2) (by omega)
    · rw [dF hi, cond_false]
      exact ⟨_, rfl⟩
def attrW (n : Nat) (s : ByteArray) : Bool := (zed n s).getD false
theorem zvo {s : ByteArray} (h : s.size < n) : zed n s = some (attrW n s) := by
  obtain ⟨b, hb⟩ := ztc s n 0 (by omega)
  unfold attrW
  rw [show zed n s = some b from hb]; rfl
theorem zsx {s : ByteArray} (h : s.size ≤ 9223372036854775807) : zg9 n s = some (plainD s) := by
  unfold zg9
  rw [dT h]; rfl
def okAt (n : Nat) (a : zab) : Bool := attrW n a.Name && plainD a.Value
def szAt (n : Nat) (a : zab) : Prop := a.Name.size < n ∧ a.Value.size ≤ 9223372036854775807
theorem zpd {x : zae} (hl : x.Attrs.length ≤ 64) (hs : ∀ a ∈ x.Attrs, szAt n a) (y : Int) (lp : List Bool → Int → Option Bool) (F : List Bool) : ∀ (d j k : Nat), j + d = x.Attrs.length → d + 1 ≤ k →
    zbp n y lp x F k (j : Int) = bif (x.Attrs.drop j).all (okAt n) then lp F (w64 (y + 1)) else some false
  | 0, j, k, hj, hk => by
    obtain ⟨k, rfl⟩ : ∃ i, k = i + 1 := ⟨k - 1, by omega⟩
    rw [zbp, dF (by omega), List.drop_eq_nil_of_le (by omega)]
    rfl
  | d + 1, j, k, hj, hk => by
    obtain ⟨k, rfl⟩ : ∃ i, k = i + 1 := ⟨k - 1, by omega⟩
    have hdr : x.Attrs.drop j = x.Attrs[j] :: x.Attrs.drop (j + 1) := List.drop_eq_getElem_cons (by omega)
    obtain ⟨z1, z2⟩ := hs _ (List.getElem_mem (show j < x.Attrs.length by omega))
    have ih := zpd hl hs y lp F d (j + 1) k (by omega) (by omega)
    have ew : w64 ((j : Int) + 1) = ((j + 1 : Nat) : Int) := zgb (by omega)
    rw [zbp, dT (by omega), cond_true, zbr, List.getElem?_eq_getElem (by omega), Option.bind_some, zvo z1, Option.bind_some, zsx z2, Option.bind_some, hdr, List.all_cons]
    unfold zee
    rw [ew, ih, show okAt n x.Attrs[j] = (attrW n x.Attrs[j].Name && plainD x.Attrs[j].Value) from rfl]
    generalize attrW n x.Attrs[j].Name = b1
    generalize plainD x.Attrs[j].Value = b2
    cases b1 <;> cases b2 <;> rfl
section
variable {x a : zae} {y : Int} {lp : List Bool → Int → Option Bool} {F : List Bool} {p0 : zaa} {pp pk : Bool}
theorem k9_eq (hn : 200 ≤ n) (hl : x.Attrs.length ≤ 64) (hs : ∀ a ∈ x.Attrs, szAt n a) (c : Bool) : zds n y lp x F c = bif !c && x.Attrs.all (okAt n) then lp F (w64 (y + 1)) else some false := by
  unfold zds
  rw [show (0 : Int) = ((0 : Nat) : Int) from rfl, zpd hl hs y lp F x.Attrs.length 0 n (by omega) (by omega), List.drop_zero]
  cases c <;> rfl
theorem k8_eq (hn : 200 ≤ n) (hl : x.Attrs.length ≤ 64) (hs : ∀ a ∈ x.Attrs, szAt n a) (hp : geti F x.Parent = some pp) (c : Bool) : zbw n y lp x F c = bif !c && (!(pp && decide (x.Name ∈ blockL)) && x.Attrs.all (okAt n)) then lp F (w64 (y + 1)) else some false := by
  unfold zbw
  rw [hp, Option.bind_some, show zat n [bs [100,105,118], bs [104,49], bs [108,105], bs [112], bs [116,97,98,108,101], bs [117,108]] x.Name = some (decide (x.Name ∈ blockL)) from zrp x.Name blockL (by decide) hn, Option.bind_some, k9_eq hn hl hs, k9_eq hn hl hs]
  generalize decide (x.Name ∈ blockL) = b1
  generalize x.Attrs.all (okAt n) = b2
  cases c <;> cases pp <;> cases b1 <;> cases b2 <;> rfl
def bodyB (n : Nat) (x a : zae) (pp pk : Bool) : Bool :=
  bif decide (x.Kind = 2) then plainD x.Text && !(decide (0 ≤ x.Prev) && pk)
  else decide (x.Name ∈ knownL) && !(decide (x.Name ∈ voidL) && decide (0 ≤ x.First)) && !(decide (withinW x.Name ≠ bs []) && decide (withinW x.Name ≠ a.Name)) && (!(pp && decide (x.Name ∈ blockL)) && x.Attrs.all (okAt n))
theorem k6_eq (hn : 200 ≤ n) (hl : x.Attrs.length ≤ 64) (hs : ∀ a ∈ x.Attrs, szAt n a) (hp : geti F x.Parent = some pp) (ht : x.Text.size ≤ 9223372036854775807) (hk : 0 ≤ x.Prev → ∃ z, geti p0.Nodes x.Prev = some z ∧ decide (z.Kind = 2) = pk) (c : Bool) :
    zd4 n p0 y lp x a F c = bif !c && bodyB n x a pp pk then lp F (w64 (y + 1)) else some false := by
  have e7 : ∀ b, zdt y lp F b = bif !b then lp F (w64 (y + 1)) else some false := fun b => by cases b <;> rfl
  unfold zd4 bodyB
  simp only [zsx ht, known_eq x.Name hn, zuc x.Name hn, zqv, Option.bind_some, k8_eq hn hl hs hp, e7]
  have ek : (bif decide (0 ≤ x.Prev) then (geti p0.Nodes x.Prev).bind fun x75 => bif !decide (x75.Kind = 2) then lp F (w64 (y + 1)) else some false else bif !false then lp F (w64 (y + 1)) else some false) = bif !(decide (0 ≤ x.Prev) && pk) then lp F (w64 (y + 1)) else some false := by
    by_cases h : 0 ≤ x.Prev
    · obtain ⟨z, z1, z2⟩ := hk h
      rw [dT h, z1, Option.bind_some, z2]; rfl
    · rw [dF h]; rfl
  rw [ek]
  generalize lp F (w64 (y + 1)) = K
  generalize decide (x.Kind = 2) = b1
  generalize plainD x.Text = b2
  generalize (decide (0 ≤ x.Prev) && pk) = b3
  generalize decide (x.Name ∈ knownL) = b4
  generalize decide (x.Name ∈ voidL) = b5
  generalize decide (0 ≤ x.First) = b6
  generalize decide (withinW x.Name ≠ bs []) = b7
  generalize decide (withinW x.Name ≠ a.Name) = b8
  generalize (!(pp && decide (x.Name ∈ blockL)) && x.Attrs.all (okAt n)) = b9
  cases c <;> cases b1
  · cases b4 <;> cases b5 <;> cases b6 <;> cases b7 <;> cases b8 <;> cases b9 <;> rfl
  · cases b2 <;> cases b3 <;> rfl
  · rfl
  · rfl
def nodeB (n : Nat) (x a : zae) (pp pk : Bool) : Bool := !(decide (a.Name ∈ tabL) && (decide (x.Kind = 2) || decide (withinW x.Name ≠ a.Name))) && bodyB n x a pp pk
theorem k5_eq (hn : 200 ≤ n) (hl : x.Attrs.length ≤ 64) (hs : ∀ a ∈ x.Attrs, szAt n a) (hp : geti F x.Parent = some pp) (ht : x.Text.size ≤ 9223372036854775807) (hk : 0 ≤ x.Prev → ∃ z, geti p0.Nodes x.Prev = some z ∧ decide (z.Kind = 2) = pk) :
    zc7 n p0 y lp x a F = bif nodeB n x a pp pk then lp F (w64 (y + 1)) else some false := by
  unfold zc7 nodeB
  rw [show zat n [bs [116,97,98,108,101], bs [116,114], bs [117,108]] a.Name = some (decide (a.Name ∈ tabL)) from zrp a.Name tabL (by decide) hn, Option.bind_some, zqv, Option.bind_some, k6_eq hn hl hs hp ht hk, k6_eq hn hl hs hp ht hk, k6_eq hn hl hs hp ht hk]
  generalize decide (a.Name ∈ tabL) = b1
  generalize decide (x.Kind = 2) = b2
  generalize decide (withinW x.Name ≠ a.Name) = b3
  generalize bodyB n x a pp pk = b4
  cases b1 <;> cases b2 <;> cases b3 <;> cases b4 <;> rfl
end
end
end
section
open Go.RowKit Go.Sl
theorem zt8 {b : Nat} (h : b < 128) : encL b = [b] := by unfold encL; rw [if_pos h]
theorem zt9 : ∀ {l : List Nat}, (∀ b ∈ l, b < 128) → enc8 (toI l) = l
  | [], _ => rfl
  | b :: l, h => by
    have ih := zt9 (l := l) fun x hx => h x (.tail _ hx)
    show encL (b : Int).toNat ++ enc8 (toI l) = _
    rw [Int.toNat_natCast, zt8 (h b (.head _)), ih]; rfl
theorem zqz {l : List Nat} (h : ∀ b ∈ l, b < 128) : Vr (toI l) := fun x hx => by
  obtain ⟨b, hb, rfl⟩ := List.mem_map.1 hx
  have := h b hb
  exact zlk (by omega)
theorem zr3 {s : ByteArray} (h : ∀ b ∈ byL s, b < 128) : runesIn s = toI (byL s) ∧ textOf (runesIn s) = s := by
  have e : textOf (toI (byL s)) = s := zsj (by rw [zg0 (zqz h), zt9 h])
  have e2 : runesIn s = toI (byL s) := by
    have := zjb (zqz h)
    rwa [e] at this
  exact ⟨e2, by rw [e2, e]⟩
theorem decL_asc {l : List Nat} (h : (decL l).1 < 128) : l.getD 0 0 = (decL l).1 ∧ (decL l).2 = 1 := by
  unfold decL at *
  simp only at *
  split at h
  · rename_i h0
    rw [if_pos h0]; exact ⟨rfl, rfl⟩
  · exfalso
    split at h
    · split at h
      · simp only at h; omega
      · simp at h
    · split at h
      · split at h
        · rename_i h3; simp only [ge_iff_le, Bool.and_eq_true, decide_eq_true_eq] at h3; simp only at h; omega
        · simp at h
      · split at h
        · split at h
          · rename_i h3; simp only [ge_iff_le, Bool.and_eq_true, decide_eq_true_eq] at h3; simp only at h; omega
          · simp at h
        · simp at h
theorem zpe {s : ByteArray} : ∀ (k i : Nat), zb9 s k i = some true → (s ≠ bs []) ∧ ∀ b ∈ (byL s).drop i, nmR (b : Int) = true ∧ b < 128
  | 0, i, h => by cases h
  | k + 1, i, h => by
    rw [zb9] at h
    by_cases hi : i < s.size
    · rw [dT hi, cond_true] at h
      generalize hr : ((Utf8.decode s i).1 : Int) = r at h
      generalize hC : (bif _ then _ else _ : Bool) = c at h
      cases c with
      | true => cases h
      | false =>
        rw [cond_false] at h
        have hn : nmR r = true := by
          unfold nmR
          by_cases a1 : 97 ≤ r <;> by_cases a2 : r ≤ 122 <;> by_cases a3 : 0 < (i : Int) <;> by_cases a4 : 48 ≤ r <;> by_cases a5 : r ≤ 57 <;> by_cases a6 : r = 45 <;> simp [a1, a2, a3, a4, a5, a6] at hC ⊢
        have h128 : r < 128 := by
          unfold nmR at hn
          simp at hn
          omega
        rw [ziy] at hr h
        have hd := decL_asc (l := (byL s).drop i) (by omega)
        rw [hd.2] at h
        obtain ⟨h1, h2⟩ := zpe k (i + 1) h
        refine ⟨h1, fun b hb => ?_⟩
        have hi' : i < (byL s).length := by rw [zgo]; exact hi
        rw [List.drop_eq_getElem_cons hi'] at hb hd
        have hd1 : (byL s)[i] = (decL ((byL s)[i] :: (byL s).drop (i + 1))).1 := hd.1
        rw [List.drop_eq_getElem_cons hi'] at hr
        rcases List.mem_cons.1 hb with rfl | hb
        · rw [hd1, hr]; exact ⟨hn, by omega⟩
        · exact h2 b hb
    · rw [dF hi, cond_false] at h
      unfold zg3 at h
      refine ⟨fun e => ?_, fun b hb => ?_⟩
      · rw [e] at h; simp at h
      · rw [List.drop_eq_nil_of_le (by rw [zgo]; omega)] at hb; cases hb
theorem zvn {n : Nat} {s : ByteArray} (h : attrW n s = true) (hs : s.size < n) : runesIn s ≠ [] ∧ (∀ z ∈ runesIn s, nmR z = true) ∧ textOf (runesIn s) = s := by
  have := zvo hs
  rw [h] at this
  obtain ⟨h1, h2⟩ := zpe n 0 this
  rw [List.drop_zero] at h2
  obtain ⟨e1, e2⟩ := zr3 fun b hb => (h2 b hb).2
  refine ⟨fun e => h1 ?_, fun z hz => ?_, e2⟩
  · rw [e] at e2; rw [← e2]; rfl
  · rw [e1] at hz
    obtain ⟨b, hb, rfl⟩ := List.mem_map.1 hz
    exact (h2 b hb).1
end
end Go.Proofs.YtpfdbeafdjnbnaaGreatDoor
