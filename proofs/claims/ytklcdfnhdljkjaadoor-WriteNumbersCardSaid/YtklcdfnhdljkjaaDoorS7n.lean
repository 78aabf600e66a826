/-
  Walks and laws of this seat; the base is the text Base.
-/
import Derived.Test.YtklcdfnhdljkjaaDoorS7m
import Derived.Test.YtklcdfnhdljkjaaDoorU7
namespace Go.Proofs.YtklcdfnhdljkjaaDoor
open Go.RowKit Go.Sl
theorem m219 {wb : Nat} (w : World) : (method (Tryd.prog.types.size + Made.depth) 161 (.pointer (some ⟨wb, 0, none⟩)) "WriteString").run Tryd.prog w = .ok (116, .pointer (some ⟨wb, 0, none⟩)) w := by kernel_rfl
theorem n219 {wb : Nat} (w : World) : (nilAhead (Tryd.prog.types.size + Made.depth) 161 (.pointer (some ⟨wb, 0, none⟩)) "WriteString").run Tryd.prog w = .ok (some false) w := by kernel_rfl
theorem m159 {wb : Nat} (w : World) : (method (Tryd.prog.types.size + Made.depth) 105 (.pointer (some ⟨wb, 0, none⟩)) "Replace").run Tryd.prog w = .ok (103, .pointer (some ⟨wb, 0, none⟩)) w := by kernel_rfl
theorem bytesIn_ext (s : ByteArray) (a b : Nat) : bytesIn (s.extract a b) = ((bytesIn s).drop a).take (b - a) := by
  unfold bytesIn
  rw [ByteArray.data_extract, Array.toList_extract, List.extract_eq_take_drop, List.map_take, List.map_drop]
theorem drop_at {s : ByteArray} {i : Nat} {c : Int} (hc : (bytesIn s)[i]? = some c) : (bytesIn s).drop i = c :: (bytesIn s).drop (i + 1) := by
  obtain ⟨h, rfl⟩ := List.getElem?_eq_some_iff.1 hc
  exact List.drop_eq_getElem_cons h
theorem bytes1 (c : UInt8) : bytesIn (bs [c]) = [(c.toNat : Int)] := rfl
/-- Behind the byte i stands what the text asks for, just if the byte 160 stands there. -/
theorem pfx160 {s : ByteArray} {i : Nat} : pfx ((s.extract i s.size).extract 1 (s.extract i s.size).size) (bs [160]) = true ↔ (bytesIn s)[i + 1]? = some 160 := by
  have e : bytesIn ((s.extract i s.size).extract 1 (s.extract i s.size).size) = (bytesIn s).drop (i + 1) := by
    rw [bytesIn_ext, bytesIn_ext, List.take_of_length_le (l := (bytesIn s).drop i) (by rw [List.length_drop, bytesIn_length]; exact Nat.le_refl _), List.drop_drop, List.take_of_length_le]
    rw [List.length_drop, bytesIn_length, ByteArray.size_extract]; omega
  have inj : ∀ {a b : ByteArray}, bytesIn a = bytesIn b → a = b := fun {a b} h => by
    rw [← bytesOf_bytesIn a, h, bytesOf_bytesIn]
  constructor
  · intro h
    obtain ⟨_, h2⟩ := pfx_true h
    have h3 := congrArg bytesIn h2
    rw [bytesIn_ext, e, List.drop_zero, show (bs [160]).size - 0 = 1 from rfl, bytes1] at h3
    have h4 : (((bytesIn s).drop (i + 1)).take 1)[0]? = some 160 := by rw [h3]; rfl
    rw [List.getElem?_take_of_lt (by omega), List.getElem?_drop] at h4
    exact h4
  · intro h
    have hd := drop_at h
    have hl : 1 ≤ ((s.extract i s.size).extract 1 (s.extract i s.size).size).size := by
      rw [← bytesIn_length, e, hd]; simp
    unfold pfx
    rw [decide_eq_true (show (bs [160]).size ≤ _ from hl), Bool.true_and, decide_eq_true]
    apply inj
    rw [bytesIn_ext, e, hd]; rfl
theorem miss_one {q : Bool} {s : ByteArray} {i : Nat} {c : Int} (hc : (bytesIn s)[i]? = some c) (h1 : oneB q c = [c]) (h2 : ¬(c = 194 ∧ (bytesIn s)[i + 1]? = some 160)) : escA q false ((bytesIn s).drop i) = c :: escA q false ((bytesIn s).drop (i + 1)) := by
  rw [drop_at hc, escA_one, h1]; · rfl
  rw [List.head?_drop]; exact h2
theorem fast_step {q : Bool} {s : ByteArray} {i c : Nat} (hc : (bytesIn s)[i]? = some (c : Int)) (h : c ∉ specB q) : escA q false ((bytesIn s).drop i) = (c : Int) :: escA q false ((bytesIn s).drop (i + 1)) :=
  miss_one hc (oneB_self h).1 fun e => (oneB_self h).2 (by have := e.1; omega)
theorem miss_step {q : Bool} {s key val : ByteArray} {i c p : Nat} (hH : HitAt q c p key val) (hc : (bytesIn s)[i]? = some (c : Int)) (hp : pfx ((s.extract i s.size).extract 1 (s.extract i s.size).size) (key.extract 1 key.size) = false) : escA q false ((bytesIn s).drop i) = (c : Int) :: escA q false ((bytesIn s).drop (i + 1)) := by
  rcases hH.is with ⟨_, rfl, _⟩ | ⟨rfl, rfl, _, h1⟩
  · rw [show (bs [UInt8.ofNat c]).extract 1 (bs [UInt8.ofNat c]).size = bs [] from rfl, pfx_nil] at hp
    cases hp
  · refine miss_one hc h1 fun e => ?_
    rw [show (bs [194, 160]).extract 1 (bs [194, 160]).size = bs [160] from rfl, pfx160.2 e.2] at hp
    cases hp
theorem hit_step {q : Bool} {s key val : ByteArray} {i c p : Nat} (hH : HitAt q c p key val) (hc : (bytesIn s)[i]? = some (c : Int)) (hp : pfx ((s.extract i s.size).extract 1 (s.extract i s.size).size) (key.extract 1 key.size) = true) :
    i + (1 + (key.extract 1 key.size).size) ≤ s.size ∧ escA q false ((bytesIn s).drop i) = bytesIn val ++ escA q false ((bytesIn s).drop (i + (1 + (key.extract 1 key.size).size))) := by
  have hi := (List.getElem?_eq_some_iff.1 hc).1
  rw [bytesIn_length] at hi
  rcases hH.is with ⟨h0, rfl, h1⟩ | ⟨rfl, rfl, h1, _⟩
  · rw [show (bs [UInt8.ofNat c]).extract 1 (bs [UInt8.ofNat c]).size = bs [] from rfl, show (bs []).size = 0 from rfl, Nat.add_zero]
    refine ⟨hi, ?_⟩
    rw [drop_at hc, escA_one, h1]
    rintro ⟨e, _⟩
    omega
  · rw [show (bs [194, 160]).extract 1 (bs [194, 160]).size = bs [160] from rfl] at hp ⊢
    have h2 := pfx160.1 hp
    have hi2 := (List.getElem?_eq_some_iff.1 h2).1
    rw [bytesIn_length] at hi2
    rw [show (bs [160]).size = 1 from rfl]
    refine ⟨hi2, ?_⟩
    rw [drop_at hc, drop_at h2, h1]
    exact escA_two q _
/-- Where WriteString stands: before i, handed over up to last, B written. -/
def WInv (q : Bool) (s : ByteArray) (i last : Nat) (B : List Int) : Prop := last ≤ i ∧ i ≤ s.size + 1 ∧ last ≤ s.size ∧ escA q false (bytesIn s) = B ++ (((bytesIn s).drop last).take (i - last) ++ escA q false ((bytesIn s).drop i))
section
variable {q : Bool} {s : ByteArray} {i last k : Nat} {B V : List Int} {c : Int}
theorem WInv.step (h : WInv q s i last B) (hc : (bytesIn s)[i]? = some c) (he : escA q false ((bytesIn s).drop i) = c :: escA q false ((bytesIn s).drop (i + 1))) : WInv q s (i + 1) last B := by
  obtain ⟨h1, h2, h3, h4⟩ := h
  have hi := (List.getElem?_eq_some_iff.1 hc).1
  rw [bytesIn_length] at hi
  refine ⟨by omega, by omega, h3, ?_⟩
  rw [h4, he, show i + 1 - last = (i - last) + 1 by omega, List.take_add_one, List.getElem?_drop, show last + (i - last) = i by omega, hc]
  simp
theorem WInv.hit (h : WInv q s i last B) (hk : i + k ≤ s.size) (he : escA q false ((bytesIn s).drop i) = V ++ escA q false ((bytesIn s).drop (i + k))) : WInv q s (i + k) (i + k) (B ++ bytesIn (s.extract last i) ++ V) := by
  obtain ⟨h1, h2, h3, h4⟩ := h
  refine ⟨Nat.le_refl _, by omega, hk, ?_⟩
  rw [h4, he, bytesIn_ext, Nat.sub_self]
  simp
theorem WInv.fin (h : WInv q s s.size last B) : WInv q s (s.size + 1) last B := by
  obtain ⟨h1, h2, h3, h4⟩ := h
  refine ⟨by omega, by omega, h3, ?_⟩
  rw [h4, List.drop_eq_nil_of_le (i := s.size) (by rw [bytesIn_length]; exact Nat.le_refl _), List.drop_eq_nil_of_le (i := s.size + 1) (by rw [bytesIn_length]; omega), List.take_of_length_le (i := s.size - last), List.take_of_length_le (i := s.size + 1 - last)]
  · rw [List.length_drop, bytesIn_length]; omega
  · rw [List.length_drop, bytesIn_length]; omega
theorem WInv.out (h : WInv q s (s.size + 1) last B) : escA q false (bytesIn s) = B ++ bytesIn (s.extract last s.size) := by
  obtain ⟨h1, h2, h3, h4⟩ := h
  rw [h4, bytesIn_ext, List.drop_eq_nil_of_le (i := s.size + 1) (by rw [bytesIn_length]; omega), List.take_of_length_le (i := s.size - last), List.take_of_length_le (i := s.size + 1 - last)]
  · simp [escA]
  · rw [List.length_drop, bytesIn_length]; omega
  · rw [List.length_drop, bytesIn_length]; omega
theorem WInv.len (h : WInv q s i last B) : B.length ≤ 6 * s.size := by
  have := escA_len q (bytesIn s) false
  rw [h.2.2.2, bytesIn_length, List.length_append] at this
  omega
end
end Go.Proofs.YtklcdfnhdljkjaaDoor
