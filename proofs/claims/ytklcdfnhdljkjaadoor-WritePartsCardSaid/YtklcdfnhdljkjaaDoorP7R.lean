/-
  Walks and laws of this seat; the base is the text Base.
-/
import Derived.Test.YtklcdfnhdljkjaaDoorL7ct
import Derived.Test.YtklcdfnhdljkjaaDoorP7y
import Derived.Test.YtklcdfnhdljkjaaDoorS7z
namespace Go.Proofs.YtklcdfnhdljkjaaDoor
open Go.RowKit Go.Sl
/-! # What Canonical asks of a node -/
theorem dT {p : Prop} [Decidable p] (h : p) : decide p = true := decide_eq_true h
theorem dF {p : Prop} [Decidable p] (h : ¬ p) : decide p = false := decide_eq_false h
instance memD (x : ByteArray) (l : List ByteArray) : Decidable (x ∈ l) := decidable_of_iff ((l.any fun y => decide (x = y)) = true) (by simp)
theorem idx_l2 (l : List ByteArray) (x : ByteArray) (hl : l.length ≤ 1000000) : ∀ (d j k : Nat), j + d = l.length → d + 1 ≤ k → ∃ r, slices_Index_string_string_l2 l x k (j : Int) = some r ∧ (0 ≤ r ↔ x ∈ l.drop j)
  | 0, j, k, hj, hk => by
    obtain ⟨k, rfl⟩ : ∃ i, k = i + 1 := ⟨k - 1, by omega⟩
    rw [slices_Index_string_string_l2, dF (by omega)]
    refine ⟨-1, rfl, ?_⟩
    rw [List.drop_eq_nil_of_le (by omega)]; simp
  | d + 1, j, k, hj, hk => by
    obtain ⟨k, rfl⟩ : ∃ i, k = i + 1 := ⟨k - 1, by omega⟩
    have hdr : l.drop j = l[j] :: l.drop (j + 1) := List.drop_eq_getElem_cons (by omega)
    rw [slices_Index_string_string_l2, dT (by omega), geti_nat, List.getElem?_eq_getElem (by omega), Option.bind_some, hdr]
    by_cases h : x = l[j]
    · rw [dT h]
      exact ⟨_, rfl, iff_of_true (by omega) (List.mem_cons.2 (.inl h))⟩
    · rw [dF h, w64_succ (by omega)]
      obtain ⟨r, e1, e2⟩ := idx_l2 l x hl d (j + 1) k (by omega) (by omega)
      exact ⟨r, e1, by rw [e2, List.mem_cons, or_iff_right h]⟩
section
variable {n : Nat}
theorem con_eq (x : ByteArray) (l : List ByteArray) (hl : l.length ≤ 100) (hn : 200 ≤ n) : slices_Contains_string_string n l x = some (decide (x ∈ l)) := by
  unfold slices_Contains_string_string slices_Index_string_string
  obtain ⟨r, e1, e2⟩ := idx_l2 l x (by omega) l.length 0 n (by omega) (by omega)
  rw [show (0 : Int) = ((0 : Nat) : Int) from rfl, e1, Option.bind_some]
  congr 1
  rw [List.drop_zero] at e2
  exact decide_eq_decide.2 e2
def knownL : List ByteArray := [bs [97], bs [98], bs [98, 114], bs [100, 105, 118], bs [101, 109], bs [104, 49], bs [104, 114], bs [105], bs [105, 109, 103], bs [108, 105], bs [112], bs [115, 112, 97, 110], bs [116, 97, 98, 108, 101], bs [116, 100], bs [116, 114], bs [117], bs [117, 108]]
def voidL : List ByteArray := [bs [98, 114], bs [104, 114], bs [105, 109, 103], bs [105, 110, 112, 117, 116], bs [108, 105, 110, 107], bs [109, 101, 116, 97]]
def blockL : List ByteArray := [bs [100, 105, 118], bs [104, 49], bs [108, 105], bs [112], bs [116, 97, 98, 108, 101], bs [117, 108]]
def tabL : List ByteArray := [bs [116, 97, 98, 108, 101], bs [116, 114], bs [117, 108]]
theorem known_eq (x : ByteArray) (hn : 200 ≤ n) : write_known n x = some (decide (x ∈ knownL)) := by
  unfold write_known
  rw [con_eq x _ (by decide) hn, Option.bind_some]; rfl
theorem void_eq (x : ByteArray) (hn : 200 ≤ n) : tree_Void n x = some (decide (x ∈ voidL)) := by
  unfold tree_Void tree_in
  rw [con_eq x _ (by decide) hn, Option.bind_some]; rfl
def withinW (s : ByteArray) : ByteArray := if s = bs [116, 114] then bs [116, 97, 98, 108, 101] else if s = bs [116, 100] then bs [116, 114] else if s = bs [108, 105] then bs [117, 108] else bs []
theorem within_eq (x : ByteArray) : write_within n x = some (withinW x) := by
  unfold write_within withinW
  by_cases h1 : x = bs [116, 114]
  · rw [dT h1, if_pos h1]; rfl
  rw [dF h1, if_neg h1]
  by_cases h2 : x = bs [116, 100]
  · rw [dT h2, if_pos h2]; rfl
  rw [dF h2, if_neg h2]
  by_cases h3 : x = bs [108, 105]
  · rw [dT h3, if_pos h3]; rfl
  rw [dF h3, if_neg h3]; rfl
theorem attr_tot (s : ByteArray) : ∀ k i, s.size - i < k → ∃ b, write_attribute_l2 s k i = some b
  | 0, i, h => by omega
  | k + 1, i, h => by
    rw [write_attribute_l2]
    by_cases hi : i < s.size
    · rw [dT hi, cond_true]
      generalize (bif _ then _ else _ : Bool) = c
      cases c with
      | true => exact ⟨false, rfl⟩
      | false =>
        have hw : 1 ≤ (Utf8.decode s i).2 := by rw [decode_list]; exact decL_width _
        exact attr_tot s k (i + (Utf8.decode s i).2) (by omega)
    · rw [dF hi, cond_false]
      exact ⟨_, rfl⟩
def attrW (n : Nat) (s : ByteArray) : Bool := (write_attribute n s).getD false
theorem attr_eq {s : ByteArray} (h : s.size < n) : write_attribute n s = some (attrW n s) := by
  obtain ⟨b, hb⟩ := attr_tot s n 0 (by omega)
  unfold attrW
  rw [show write_attribute n s = some b from hb]; rfl
theorem plain_eq {s : ByteArray} (h : s.size ≤ 9223372036854775807) : write_plainT n s = some (plainD s) := by
  unfold write_plainT
  rw [dT h]; rfl
def okAt (n : Nat) (a : api_Attr) : Bool := attrW n a.Name && plainD a.Value
def szAt (n : Nat) (a : api_Attr) : Prop := a.Name.size < n ∧ a.Value.size ≤ 9223372036854775807
theorem attrs_loop {x : api_Node} (hl : x.Attrs.length ≤ 64) (hs : ∀ a ∈ x.Attrs, szAt n a) (y : Int) (lp : List Bool → Int → Option Bool) (F : List Bool) : ∀ (d j k : Nat), j + d = x.Attrs.length → d + 1 ≤ k →
    write_Canonical_l11 n y lp x F k (j : Int) = bif (x.Attrs.drop j).all (okAt n) then lp F (w64 (y + 1)) else some false
  | 0, j, k, hj, hk => by
    obtain ⟨k, rfl⟩ : ∃ i, k = i + 1 := ⟨k - 1, by omega⟩
    rw [write_Canonical_l11, dF (by omega), List.drop_eq_nil_of_le (by omega)]
    rfl
  | d + 1, j, k, hj, hk => by
    obtain ⟨k, rfl⟩ : ∃ i, k = i + 1 := ⟨k - 1, by omega⟩
    have hdr : x.Attrs.drop j = x.Attrs[j] :: x.Attrs.drop (j + 1) := List.drop_eq_getElem_cons (by omega)
    obtain ⟨z1, z2⟩ := hs _ (List.getElem_mem (show j < x.Attrs.length by omega))
    have ih := attrs_loop hl hs y lp F d (j + 1) k (by omega) (by omega)
    have ew : w64 ((j : Int) + 1) = ((j + 1 : Nat) : Int) := w64_succ (by omega)
    rw [write_Canonical_l11, dT (by omega), cond_true, geti_nat, List.getElem?_eq_getElem (by omega), Option.bind_some, attr_eq z1, Option.bind_some, plain_eq z2, Option.bind_some, hdr, List.all_cons]
    unfold write_Canonical_k12
    rw [ew, ih, show okAt n x.Attrs[j] = (attrW n x.Attrs[j].Name && plainD x.Attrs[j].Value) from rfl]
    generalize attrW n x.Attrs[j].Name = b1
    generalize plainD x.Attrs[j].Value = b2
    cases b1 <;> cases b2 <;> rfl
section
variable {x a : api_Node} {y : Int} {lp : List Bool → Int → Option Bool} {F : List Bool} {p0 : api_Tree} {pp pk : Bool}
theorem k9_eq (hn : 200 ≤ n) (hl : x.Attrs.length ≤ 64) (hs : ∀ a ∈ x.Attrs, szAt n a) (c : Bool) : write_Canonical_k9 n y lp x F c = bif !c && x.Attrs.all (okAt n) then lp F (w64 (y + 1)) else some false := by
  unfold write_Canonical_k9
  rw [show (0 : Int) = ((0 : Nat) : Int) from rfl, attrs_loop hl hs y lp F x.Attrs.length 0 n (by omega) (by omega), List.drop_zero]
  cases c <;> rfl
theorem k8_eq (hn : 200 ≤ n) (hl : x.Attrs.length ≤ 64) (hs : ∀ a ∈ x.Attrs, szAt n a) (hp : geti F x.Parent = some pp) (c : Bool) : write_Canonical_k8 n y lp x F c = bif !c && (!(pp && decide (x.Name ∈ blockL)) && x.Attrs.all (okAt n)) then lp F (w64 (y + 1)) else some false := by
  unfold write_Canonical_k8
  rw [hp, Option.bind_some, show slices_Contains_string_string n [bs [100, 105, 118], bs [104, 49], bs [108, 105], bs [112], bs [116, 97, 98, 108, 101], bs [117, 108]] x.Name = some (decide (x.Name ∈ blockL)) from con_eq x.Name blockL (by decide) hn, Option.bind_some, k9_eq hn hl hs, k9_eq hn hl hs]
  generalize decide (x.Name ∈ blockL) = b1
  generalize x.Attrs.all (okAt n) = b2
  cases c <;> cases pp <;> cases b1 <;> cases b2 <;> rfl
/-- What is asked of a node but for the place where it stands. -/
def bodyB (n : Nat) (x a : api_Node) (pp pk : Bool) : Bool :=
  bif decide (x.Kind = 2) then plainD x.Text && !(decide (0 ≤ x.Prev) && pk)
  else decide (x.Name ∈ knownL) && !(decide (x.Name ∈ voidL) && decide (0 ≤ x.First)) && !(decide (withinW x.Name ≠ bs []) && decide (withinW x.Name ≠ a.Name)) && (!(pp && decide (x.Name ∈ blockL)) && x.Attrs.all (okAt n))
theorem k6_eq (hn : 200 ≤ n) (hl : x.Attrs.length ≤ 64) (hs : ∀ a ∈ x.Attrs, szAt n a) (hp : geti F x.Parent = some pp) (ht : x.Text.size ≤ 9223372036854775807) (hk : 0 ≤ x.Prev → ∃ z, geti p0.Nodes x.Prev = some z ∧ decide (z.Kind = 2) = pk) (c : Bool) :
    write_Canonical_k6 n p0 y lp x a F c = bif !c && bodyB n x a pp pk then lp F (w64 (y + 1)) else some false := by
  have e7 : ∀ b, write_Canonical_k7 y lp F b = bif !b then lp F (w64 (y + 1)) else some false := fun b => by cases b <;> rfl
  unfold write_Canonical_k6 bodyB
  simp only [plain_eq ht, known_eq x.Name hn, void_eq x.Name hn, within_eq, Option.bind_some, k8_eq hn hl hs hp, e7]
  have ek : (bif decide (0 ≤ x.Prev) then (geti p0.Nodes x.Prev).bind fun x75 => bif !decide (x75.Kind = 2) then lp F (w64 (y + 1)) else some false else bif !false then lp F (w64 (y + 1)) else some false) = bif !(decide (0 ≤ x.Prev) && pk) then lp F (w64 (y + 1)) else some false := by
    by_cases h : 0 ≤ x.Prev
    · obtain ⟨z, z1, z2⟩ := hk h
      rw [dT h, z1, Option.bind_some, z2]; rfl
    · rw [dF h]; rfl
  rw [ek]
  generalize lp F (w64 (y + 1)) = K
  generalize decide (x.Kind = 2) = b1
  generalize plainD x.Text = b2
  generalize (decide (0 ≤ x.Prev) && pk) = b3
  generalize decide (x.Name ∈ knownL) = b4
  generalize decide (x.Name ∈ voidL) = b5
  generalize decide (0 ≤ x.First) = b6
  generalize decide (withinW x.Name ≠ bs []) = b7
  generalize decide (withinW x.Name ≠ a.Name) = b8
  generalize (!(pp && decide (x.Name ∈ blockL)) && x.Attrs.all (okAt n)) = b9
  cases c <;> cases b1
  · cases b4 <;> cases b5 <;> cases b6 <;> cases b7 <;> cases b8 <;> cases b9 <;> rfl
  · cases b2 <;> cases b3 <;> rfl
  · rfl
  · rfl
/-- What is asked of a node. -/
def nodeB (n : Nat) (x a : api_Node) (pp pk : Bool) : Bool := !(decide (a.Name ∈ tabL) && (decide (x.Kind = 2) || decide (withinW x.Name ≠ a.Name))) && bodyB n x a pp pk
theorem k5_eq (hn : 200 ≤ n) (hl : x.Attrs.length ≤ 64) (hs : ∀ a ∈ x.Attrs, szAt n a) (hp : geti F x.Parent = some pp) (ht : x.Text.size ≤ 9223372036854775807) (hk : 0 ≤ x.Prev → ∃ z, geti p0.Nodes x.Prev = some z ∧ decide (z.Kind = 2) = pk) :
    write_Canonical_k5 n p0 y lp x a F = bif nodeB n x a pp pk then lp F (w64 (y + 1)) else some false := by
  unfold write_Canonical_k5 nodeB
  rw [show slices_Contains_string_string n [bs [116, 97, 98, 108, 101], bs [116, 114], bs [117, 108]] a.Name = some (decide (a.Name ∈ tabL)) from con_eq a.Name tabL (by decide) hn, Option.bind_some, within_eq, Option.bind_some, k6_eq hn hl hs hp ht hk, k6_eq hn hl hs hp ht hk, k6_eq hn hl hs hp ht hk]
  generalize decide (a.Name ∈ tabL) = b1
  generalize decide (x.Kind = 2) = b2
  generalize decide (withinW x.Name ≠ a.Name) = b3
  generalize bodyB n x a pp pk = b4
  cases b1 <;> cases b2 <;> cases b3 <;> cases b4 <;> rfl
end
end
end Go.Proofs.YtklcdfnhdljkjaaDoor
