/-
  Walks and laws of this seat; the base is the text Base.
-/
import Derived.Test.YthmnohdlhlmmpaaL4a
import Derived.Test.YthmnohdlhlmmpaaL4e
namespace Go.Proofs.Ythmnohdlhlmmpaa
open Go.RowKit Go.Sl
/-! Plain facts on lists, strings and lengths. -/
theorem geti_nat {α : Type} (xs : List α) (m : Nat) : geti xs (m : Int) = xs[m]? := by simp [geti]
theorem appM_eq {α : Type} {b : Nat} {xs ys : List α} (h : xs.length + ys.length ≤ 9223372036854775807 ∧ (xs.length + ys.length) * b ≤ 140737488355328) : appM b xs ys = some (xs ++ ys) := by
  simp [appM, roomB, h.1, h.2]
theorem w64_id {i : Int} (h : -9223372036854775808 ≤ i ∧ i ≤ 9223372036854775807) : w64 i = i := wr_i64 h
theorem w64_succ {m : Nat} (h : m ≤ 9223372036854775806) : w64 ((m : Int) + 1) = ((m + 1 : Nat) : Int) := by
  rw [w64_id (by omega)]; omega
theorem bs_data (s : ByteArray) : s = bs s.data.toList := by cases s; simp [bs]
theorem bs_size (l : List UInt8) : (bs l).size = l.length := by simp [ByteArray.size]
theorem bs_inj {a b : List UInt8} : bs a = bs b ↔ a = b := by
  constructor
  · intro h
    have := congrArg (fun s => s.data.toList) h
    simpa using this
  · rintro rfl; rfl
theorem bytesIn_bs (l : List UInt8) : bytesIn (bs l) = l.map fun b => (b.toNat : Int) := by simp [bytesIn]
theorem bytesOf_map (l : List UInt8) : bytesOf (l.map fun b => (b.toNat : Int)) = bs l := by
  simp [bytesOf, Function.comp_def]
theorem getS_bs {l : List UInt8} {i : Nat} {b : UInt8} (h : l[i]? = some b) : getS (bs l) (i : Int) = some (b.toNat : Int) := by
  simp [getS, bytesIn_bs, geti, h]
theorem cutS_bs (l : List UInt8) {lo hi : Nat} (h1 : lo ≤ hi) (h2 : hi ≤ l.length) : cutS (bs l) (lo : Int) (hi : Int) = some (bs ((l.take hi).drop lo)) := by
  have e : (bs l).extract lo hi = bs ((l.take hi).drop lo) := by
    apply ByteArray.ext
    simp [bs, ByteArray.data_extract, List.drop_take]
  have h3 : (lo : Int) ≤ hi := by omega
  have h4 : (hi : Int) ≤ l.length := by omega
  simp only [cutS, bs_size, Int.toNat_natCast, e, h3, h4]
  simp
/-! Digits. -/
def hexes : List UInt8 := [48, 49, 50, 51, 52, 53, 54, 55, 56, 57, 97, 98, 99, 100, 101, 102]
def lowI (x : Int) : Int := bif (decide (65 ≤ x)) && (decide (x ≤ 90)) then IntKind.i32.wrap ((IntKind.i32.wrap (x + 97)) - 65) else x
/-- What a byte is worth as a digit, or less than 0. -/
def dg (base : Int) (b : UInt8) : Int := (ref4_digit 0 (b.toNat : Int) base).getD 0
theorem digit_k3 (p v : Int) : ∃ d, ref4_digit_k3 p v = some d := by
  unfold ref4_digit_k3; cases decide (p ≤ v) <;> exact ⟨_, rfl⟩
theorem digit_k2 (x p v : Int) : ∃ d, ref4_digit_k2 x p v = some d := by
  unfold ref4_digit_k2; cases (decide (65 ≤ x) && decide (x ≤ 70)) <;> exact digit_k3 _ _
theorem digit_k1 (x p v : Int) : ∃ d, ref4_digit_k1 x p v = some d := by
  unfold ref4_digit_k1; cases (decide (97 ≤ x) && decide (x ≤ 102)) <;> exact digit_k2 _ _ _
theorem digit_k0 (n : Nat) (x p : Int) : ∃ d, ref4_digit n x p = some d := by
  unfold ref4_digit; cases (decide (48 ≤ x) && decide (x ≤ 57)) <;> exact digit_k1 _ _ _
theorem ref_digit (n : Nat) (base : Int) (b : UInt8) : ref4_digit n (b.toNat : Int) base = some (dg base b) := by
  have : ∀ n x, ref4_digit n x base = ref4_digit 0 x base := fun _ _ => rfl
  rw [this]
  unfold dg
  obtain ⟨d, h⟩ := digit_k0 0 (b.toNat : Int) base
  rw [h]; rfl
theorem mark_small_one (k : Nat) (x : Int) : mark_small (k + 2) [x] = some (textOf [lowI x]) := by
  unfold mark_small
  rw [appM_eq (by simp), Option.bind_some, List.nil_append]
  unfold mark_small_l2
  rw [show decide ((0 : Int) < ((([x] : List Int).length : Nat) : Int)) = true from rfl, cond_true, show geti [x] 0 = some x from rfl, Option.bind_some]
  unfold lowI
  cases (decide (65 ≤ x) && decide (x ≤ 90)) <;> rfl
/-- The digit that mark reads. -/
def dm (b : UInt8) : Int := Go.Lib.indexByte hexes ((Utf8.encode (lowI (IntKind.i32.wrap (b.toNat : Int)))).data.toList.headD 0)
theorem all_bytes {p : UInt8 → Prop} [DecidablePred p] (h : (List.range 256).all (fun k => decide (p (UInt8.ofNat k))) = true) (b : UInt8) : p b := by
  rw [List.all_eq_true] at h
  have := h b.toNat (List.mem_range.2 b.toNat_lt)
  simpa using this
theorem dm_dg10 (b : UInt8) : (bif (decide (dm b < 0)) || (decide (10 ≤ dm b)) then -1 else dm b) = dg 10 b := all_bytes (p := fun b => (bif (decide (dm b < 0)) || (decide (10 ≤ dm b)) then -1 else dm b) = dg 10 b) (by kernel_rfl) b
theorem dm_dg16 (b : UInt8) : (bif (decide (dm b < 0)) || (decide (16 ≤ dm b)) then -1 else dm b) = dg 16 b := all_bytes (p := fun b => (bif (decide (dm b < 0)) || (decide (16 ≤ dm b)) then -1 else dm b) = dg 16 b) (by kernel_rfl) b
theorem enc_head (r : Int) : ∃ b t, (Utf8.encode r).data.toList = b :: t ∧ t.length ≤ 3 := by
  unfold Utf8.encode
  simp only
  generalize (if Utf8.valid r = true then r.toNat else Utf8.runeError) = c
  split
  · exact ⟨_, _, rfl, by simp⟩
  · split
    · exact ⟨_, _, rfl, by simp⟩
    · split
      · exact ⟨_, _, rfl, by simp⟩
      · exact ⟨_, _, rfl, by simp⟩
theorem textOf_one (x : Int) : textOf [x] = Utf8.encode x := by
  simp [textOf]
theorem mark_dig (k : Nat) (b : UInt8) {β : Type} (K : Int → Option β) : ((mark_small (k + 2) [IntKind.i32.wrap (b.toNat : Int)]).bind fun x19 => (getS x19 0).bind fun x21 => (strings_IndexByte (k + 2) (bs hexes) x21).bind K) = K (dm b) := by
  rw [mark_small_one, Option.bind_some, textOf_one]
  obtain ⟨c, t, h, _⟩ := enc_head (lowI (IntKind.i32.wrap (b.toNat : Int)))
  have e : Utf8.encode (lowI (IntKind.i32.wrap (b.toNat : Int))) = bs (c :: t) := by rw [bs_data (Utf8.encode _), h]
  rw [e, show (0 : Int) = ((0 : Nat) : Int) from rfl, getS_bs (b := c) rfl, Option.bind_some]
  unfold strings_IndexByte dm
  rw [Option.bind_some, h]
  simp
end Go.Proofs.Ythmnohdlhlmmpaa
