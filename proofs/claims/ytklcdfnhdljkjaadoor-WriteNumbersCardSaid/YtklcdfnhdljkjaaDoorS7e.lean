/-
  Walks and laws of this seat; the base is the text Base.
-/
import Derived.Test.YtklcdfnhdljkjaaDoorS7d
namespace Go.Proofs.YtklcdfnhdljkjaaDoor
open Go.RowKit Go.Sl
/-! The replacer's block: the root's cells, the table's size, the bytes' numbers. -/
def gcA (tv : Value) (T : Int) (M : List Int) : Array Value := ([.string (bs []), .int .i64 0, .string (bs []), .pointer none, tv, .int .i64 T] ++ M.map (fun x => Value.int .u8 x)).toArray
section
variable {tv : Value} {T : Int} {M : List Int}
theorem gcA_get {i : Nat} {x : Int} (h : M[i]? = some x) : (gcA tv T M)[6 + i]? = some (.int .u8 x) := by
  unfold gcA
  rw [List.getElem?_toArray, List.getElem?_append_right (by simp)]
  simp [h]
theorem gcA_set {i : Nat} {x : Int} : (gcA tv T M).setIfInBounds (6 + i) (.int .u8 x) = gcA tv T (M.set i x) := by
  unfold gcA
  rw [List.setIfInBounds_toArray, List.set_append_right _ _ (by simp)]
  simp [List.map_set]
theorem gcA_T {T' : Int} : (gcA tv T M).setIfInBounds 5 (.int .i64 T') = gcA tv T' M := by
  unfold gcA; rw [List.setIfInBounds_toArray]; rfl
theorem gcA_tv {tv' : Value} : (gcA tv T M).setIfInBounds 4 tv' = gcA tv' T M := by
  unfold gcA; rw [List.setIfInBounds_toArray]; rfl
theorem gcA_1 : (gcA tv T M)[1]? = some (.int .i64 0) := rfl
theorem gcA_2 : (gcA tv T M)[2]? = some (.string (bs [])) := rfl
theorem gcA_4 : (gcA tv T M)[4]? = some tv := rfl
theorem gcA_5 : (gcA tv T M)[5]? = some (.int .i64 T) := rfl
theorem gcA_size : (gcA tv T M).size = 6 + M.length := by simp [gcA]; omega
theorem gcA_drop : ((gcA tv T M).toList.drop 6).take 256 = (M.map (fun x => Value.int .u8 x)).take 256 := by unfold gcA; rfl
end
/-- Which bytes stand in texts. -/
def markB (M : List Int) (l : List Int) : List Int := l.foldl (fun M c => M.set c.toNat 1) M
theorem markB_len : ∀ (l : List Int) (M : List Int), (markB M l).length = M.length
  | [], _ => rfl
  | c :: l, M => by unfold markB; rw [List.foldl_cons]; exact (markB_len l _).trans (by simp)
/-- The same of each second text of a list. -/
def markL (l : List ByteArray) : Nat → List Int
  | 0 => List.replicate 256 0
  | k + 1 => markB (markL l k) (bytesIn (l[2 * k]?.getD (bs [])))
theorem markL_len (l : List ByteArray) : ∀ k, (markL l k).length = 256
  | 0 => by rw [markL, List.length_replicate]
  | k + 1 => by rw [markL, markB_len]; exact markL_len l k
/-- How many these are. -/
def sumB (M : List Int) : Nat → Int
  | 0 => 0
  | k + 1 => IntKind.i64.wrap (sumB M k + IntKind.i64.wrap (M[k]?.getD 0))
/-- Their numbers; the others have the number of all. -/
def numB (T : Int) (M : List Int) : Nat → List Int × Int
  | 0 => (M, 0)
  | k + 1 => let s := numB T M k
    if M[k]?.getD 0 = 0 then (s.1.set k (IntKind.u8.wrap T), s.2) else (s.1.set k s.2, IntKind.u8.wrap (s.2 + 1))
theorem numB_len (T : Int) (M : List Int) : ∀ k, (numB T M k).1.length = M.length
  | 0 => rfl
  | k + 1 => by
    unfold numB
    simp only
    split <;> simp [numB_len T M k]
theorem ti127' : TI Tryd.prog 127 262 (match Tryd.prog.info? 127 with | some i => i.bytes | none => 0) (.agg (gcA (.slice none 0 0) 0 (List.replicate 256 0))) := .of (by kernel_rfl)
/-- The texts that Escape hands over, and what is to be known of them. -/
def escL (q : Bool) : List ByteArray := [bs [38], bs [38, 97, 109, 112, 59], bs [60], bs [38, 108, 116, 59], bs [62], bs [38, 103, 116, 59], bs [194, 160], bs [38, 110, 98, 115, 112, 59], bs [13], bs [38, 35, 49, 51, 59]] ++ (if q then [bs [34], bs [38, 113, 117, 111, 116, 59]] else [])
set_option maxRecDepth 100000 in
example : sumB (markL (escL true) 6) 256 = 7 ∧ sumB (markL (escL false) 5) 256 = 6 := by decide +kernel
set_option maxRecDepth 100000 in
example : (numB 7 (markL (escL true) 6) 256).1[38]? = some 2 := by decide +kernel
end Go.Proofs.YtklcdfnhdljkjaaDoor
