/-
  Walks and laws of this seat; the base is the text Base.
-/
import Derived.Test.YthpokoghhfidpaaBase
import Derived.Test.YthpokoghhfidpaaRows
/-
  The rows of the types' table, and that the functions have bodies: closed facts. Printed by gen.py.
-/
namespace Go.Proofs.Ythpokoghhfidpaa
open Go.Sl

theorem mixed : Try.prog.follows .mixedOrders = true := by kernel_rfl
theorem ti1 : TI Try.prog 1 1 8 (.nilFunc) := .of (by kernel_rfl)
theorem ti2 : TI Try.prog 2 1 8 (.int .i64 0) := .of (by kernel_rfl)
theorem ti3 : TI Try.prog 3 1 8 (.int .i64 0) := .of (by kernel_rfl)
theorem ti4 : TI Try.prog 4 1 1 (.bool false) := .of (by kernel_rfl)
theorem ti5 : TI Try.prog 5 1 1 (.int .u8 0) := .of (by kernel_rfl)
theorem ti6 : TI Try.prog 6 1 1 (.int .u8 0) := .of (by kernel_rfl)
theorem ti7 : TI Try.prog 7 4 24 (.agg #[.int .i64 0, .int .i64 0, .bool false, .int .u8 0]) := .of (by kernel_rfl)
theorem ti8 : TI Try.prog 8 4 24 (.agg #[.int .i64 0, .int .i64 0, .bool false, .int .u8 0]) := .of (by kernel_rfl)
theorem ti9 : TI Try.prog 9 1 16 (.string ByteArray.empty) := .of (by kernel_rfl)
theorem ti10 : TI Try.prog 10 1 16 (.string ByteArray.empty) := .of (by kernel_rfl)
theorem ti11 : TI Try.prog 11 1 16 (.string ByteArray.empty) := .of (by kernel_rfl)
theorem ti12 : TI Try.prog 12 1 8 (.int .u64 0) := .of (by kernel_rfl)
theorem ti13 : TI Try.prog 13 2 24 (.agg #[.string ByteArray.empty, .int .u64 0]) := .of (by kernel_rfl)
theorem ti14 : TI Try.prog 14 2 24 (.agg #[.string ByteArray.empty, .int .u64 0]) := .of (by kernel_rfl)
theorem ti15 : TI Try.prog 15 1 8 (.pointer none) := .of (by kernel_rfl)
theorem ti16 : TI Try.prog 16 1 8 (.pointer none) := .of (by kernel_rfl)
theorem ti17 : TI Try.prog 17 1 8 (.pointer none) := .of (by kernel_rfl)
theorem ti18 : TI Try.prog 18 1 8 (.agg #[.pointer none]) := .of (by kernel_rfl)
theorem ti19 : TI Try.prog 19 1 8 (.agg #[.pointer none]) := .of (by kernel_rfl)
theorem ti20 : TI Try.prog 20 1 16 (.nilIface) := .of (by kernel_rfl)
theorem ti21 : TI Try.prog 21 1 4 (.int .i32 0) := .of (by kernel_rfl)
theorem ti22 : TI Try.prog 22 1 24 (.slice none 0 0) := .of (by kernel_rfl)
theorem ti23 : TI Try.prog 23 1 8 (.nilFunc) := .of (by kernel_rfl)
theorem ti24 : TI Try.prog 24 1 24 (.slice none 0 0) := .of (by kernel_rfl)
theorem ti25 : TI Try.prog 25 1 8 (.int .i64 0) := .of (by kernel_rfl)
theorem ti27 : TI Try.prog 27 1 8 (.nilFunc) := .of (by kernel_rfl)
theorem ti28 : TI Try.prog 28 1 8 (.nilFunc) := .of (by kernel_rfl)
theorem ti29 : TI Try.prog 29 1 8 (.nilFunc) := .of (by kernel_rfl)
theorem ti30 : TI Try.prog 30 1 8 (.nilFunc) := .of (by kernel_rfl)
theorem ti31 : TI Try.prog 31 1 8 (.nilFunc) := .of (by kernel_rfl)
theorem ti32 : TI Try.prog 32 1 8 (.nilFunc) := .of (by kernel_rfl)
theorem ti33 : TI Try.prog 33 1 8 (.nilFunc) := .of (by kernel_rfl)
theorem ti34 : TI Try.prog 34 1 24 (.slice none 0 0) := .of (by kernel_rfl)
theorem ti35 : TI Try.prog 35 4 64 (.agg #[.slice none 0 0, .slice none 0 0, .int .i64 0, .bool false]) := .of (by kernel_rfl)
theorem ti36 : TI Try.prog 36 4 64 (.agg #[.slice none 0 0, .slice none 0 0, .int .i64 0, .bool false]) := .of (by kernel_rfl)
theorem ti37 : TI Try.prog 37 1 8 (.nilFunc) := .of (by kernel_rfl)
theorem ti38 : TI Try.prog 38 1 8 (.nilFunc) := .of (by kernel_rfl)
theorem ti39 : TI Try.prog 39 1 8 (.nilFunc) := .of (by kernel_rfl)
theorem ti40 : TI Try.prog 40 1 8 (.pointer none) := .of (by kernel_rfl)
theorem ti41 : TI Try.prog 41 1 8 (.nilFunc) := .of (by kernel_rfl)
theorem ti42 : TI Try.prog 42 1 24 (.slice none 0 0) := .of (by kernel_rfl)
theorem ti44 : TI Try.prog 44 1 8 (.nilFunc) := .of (by kernel_rfl)
theorem ti45 : TI Try.prog 45 1 8 (.nilFunc) := .of (by kernel_rfl)
theorem ti46 : TI Try.prog 46 1 8 (.nilFunc) := .of (by kernel_rfl)
theorem ti47 : TI Try.prog 47 1 8 (.nilFunc) := .of (by kernel_rfl)
theorem ti48 : TI Try.prog 48 1 8 (.nilFunc) := .of (by kernel_rfl)
theorem ti49 : TI Try.prog 49 1 8 (.pointer none) := .of (by kernel_rfl)
theorem ti50 : TI Try.prog 50 2 32 (.agg #[.slice none 0 0, .int .i64 0]) := .of (by kernel_rfl)
theorem ti51 : TI Try.prog 51 2 32 (.agg #[.slice none 0 0, .int .i64 0]) := .of (by kernel_rfl)
theorem ti52 : TI Try.prog 52 1 8 (.nilFunc) := .of (by kernel_rfl)
theorem ti53 : TI Try.prog 53 4 40 (.agg #[.pointer none, .pointer none, .pointer none, .string ByteArray.empty]) := .of (by kernel_rfl)
theorem ti54 : TI Try.prog 54 4 40 (.agg #[.pointer none, .pointer none, .pointer none, .string ByteArray.empty]) := .of (by kernel_rfl)
theorem ti55 : TI Try.prog 55 0 0 (.agg #[]) := .of (by kernel_rfl)
theorem ti56 : TI Try.prog 56 0 0 (.agg #[]) := .of (by kernel_rfl)
theorem ti57 : TI Try.prog 57 0 0 (.agg #[]) := .of (by kernel_rfl)
theorem ti58 : TI Try.prog 58 1 4 (.int .u32 0) := .of (by kernel_rfl)
theorem ti59 : TI Try.prog 59 1 1 (.int .u8 0) := .of (by kernel_rfl)
theorem ti60 : TI Try.prog 60 1 1 (.int .u8 0) := .of (by kernel_rfl)
theorem ti61 : TI Try.prog 61 1 8 (.nilFunc) := .of (by kernel_rfl)
theorem ti62 : TI Try.prog 62 1 8 (.pointer none) := .of (by kernel_rfl)
theorem ti63 : TI Try.prog 63 1 4 (.int .i32 0) := .of (by kernel_rfl)
theorem ti64 : TI Try.prog 64 1 4 (.int .i32 0) := .of (by kernel_rfl)
theorem ti65 : TI Try.prog 65 11 48 (.agg #[.int .u64 0, .int .u64 0, .int .u32 0, .int .u8 0, .int .u8 0, .int .u8 0, .int .u8 0, .nilFunc, .pointer none, .int .i32 0, .int .i32 0]) := .of (by kernel_rfl)
theorem ti66 : TI Try.prog 66 11 48 (.agg #[.int .u64 0, .int .u64 0, .int .u32 0, .int .u8 0, .int .u8 0, .int .u8 0, .int .u8 0, .nilFunc, .pointer none, .int .i32 0, .int .i32 0]) := .of (by kernel_rfl)
theorem ti67 : TI Try.prog 67 1 8 (.pointer none) := .of (by kernel_rfl)
theorem has2 : Has Try.prog 2 := ⟨_, Try.func2, rfl, by kernel_rfl⟩
theorem has3 : Has Try.prog 3 := ⟨_, Try.func3, rfl, by kernel_rfl⟩
theorem has4 : Has Try.prog 4 := ⟨_, Try.func4, rfl, by kernel_rfl⟩
theorem has5 : Has Try.prog 5 := ⟨_, Try.func5, rfl, by kernel_rfl⟩
theorem has6 : Has Try.prog 6 := ⟨_, Try.func6, rfl, by kernel_rfl⟩
theorem has7 : Has Try.prog 7 := ⟨_, Try.func7, rfl, by kernel_rfl⟩
theorem has8 : Has Try.prog 8 := ⟨_, Try.func8, rfl, by kernel_rfl⟩
theorem has9 : Has Try.prog 9 := ⟨_, Try.func9, rfl, by kernel_rfl⟩
theorem has10 : Has Try.prog 10 := ⟨_, Try.func10, rfl, by kernel_rfl⟩
theorem has11 : Has Try.prog 11 := ⟨_, Try.func11, rfl, by kernel_rfl⟩
theorem has12 : Has Try.prog 12 := ⟨_, Try.func12, rfl, by kernel_rfl⟩
theorem has13 : Has Try.prog 13 := ⟨_, Try.func13, rfl, by kernel_rfl⟩
theorem has14 : Has Try.prog 14 := ⟨_, Try.func14, rfl, by kernel_rfl⟩
theorem has15 : Has Try.prog 15 := ⟨_, Try.func15, rfl, by kernel_rfl⟩
theorem has16 : Has Try.prog 16 := ⟨_, Try.func16, rfl, by kernel_rfl⟩
theorem has17 : Has Try.prog 17 := ⟨_, Try.func17, rfl, by kernel_rfl⟩
theorem has18 : Has Try.prog 18 := ⟨_, Try.func18, rfl, by kernel_rfl⟩
theorem has19 : Has Try.prog 19 := ⟨_, Try.func19, rfl, by kernel_rfl⟩
theorem has20 : Has Try.prog 20 := ⟨_, Try.func20, rfl, by kernel_rfl⟩
theorem has21 : Has Try.prog 21 := ⟨_, Try.func21, rfl, by kernel_rfl⟩
theorem has22 : Has Try.prog 22 := ⟨_, Try.func22, rfl, by kernel_rfl⟩
theorem has23 : Has Try.prog 23 := ⟨_, Try.func23, rfl, by kernel_rfl⟩
end Go.Proofs.Ythpokoghhfidpaa
