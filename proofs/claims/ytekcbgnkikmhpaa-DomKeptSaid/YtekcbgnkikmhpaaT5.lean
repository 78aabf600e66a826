/-
  Walks and laws of this seat; the base is the text Base.
-/
import Derived.Test.YtekcbgnkikmhpaaBasg
import Derived.Test.YtekcbgnkikmhpaaRows
/-
  The rows of the types' table, and that the functions have bodies: closed facts. Printed by gen.py.
-/
namespace Go.Proofs.Ytekcbgnkikmhpaa
open Go.Sl
theorem mixed : Try.prog.follows .mixedOrders = true := by kernel_rfl
theorem ti3 : TI Try.prog 3 1 8 (.int .i64 0) := .of (by kernel_rfl)
theorem ti9 : TI Try.prog 9 1 16 (.string ByteArray.empty) := .of (by kernel_rfl)
theorem ti22 : TI Try.prog 22 1 24 (.slice none 0 0) := .of (by kernel_rfl)
theorem ti24 : TI Try.prog 24 1 24 (.agg #[.slice none 0 0]) := .of (by kernel_rfl)
theorem ti32 : TI Try.prog 32 1 24 (.slice none 0 0) := .of (by kernel_rfl)
theorem ti33 : TI Try.prog 33 1 24 (.slice none 0 0) := .of (by kernel_rfl)
theorem ti35 : TI Try.prog 35 4 80 (.agg #[.string ByteArray.empty, .string ByteArray.empty, .slice none 0 0, .slice none 0 0]) := .of (by kernel_rfl)
theorem ti41 : TI Try.prog 41 1 24 (.slice none 0 0) := .of (by kernel_rfl)
theorem ti43 : TI Try.prog 43 4 80 (.agg #[.string ByteArray.empty, .string ByteArray.empty, .slice none 0 0, .slice none 0 0]) := .of (by kernel_rfl)
theorem ti53 : TI Try.prog 53 2 32 (.agg #[.string ByteArray.empty, .string ByteArray.empty]) := .of (by kernel_rfl)
theorem ti59 : TI Try.prog 59 9 104 (.agg #[.int .i64 0, .string ByteArray.empty, .string ByteArray.empty, .slice none 0 0, .int .i64 0, .int .i64 0, .int .i64 0, .int .i64 0, .int .i64 0]) := .of (by kernel_rfl)
theorem ti71 : TI Try.prog 71 1 8 (.nilFunc) := .of (by kernel_rfl)
theorem ti74 : TI Try.prog 74 1 8 (.nilFunc) := .of (by kernel_rfl)
theorem has10 : Has Try.prog 10 := ⟨_, Try.func10, rfl, by kernel_rfl⟩
theorem has11 : Has Try.prog 11 := ⟨_, Try.func11, rfl, by kernel_rfl⟩
theorem has12 : Has Try.prog 12 := ⟨_, Try.func12, rfl, by kernel_rfl⟩
theorem has14 : Has Try.prog 14 := ⟨_, Try.func14, rfl, by kernel_rfl⟩
theorem has15 : Has Try.prog 15 := ⟨_, Try.func15, rfl, by kernel_rfl⟩
theorem has16 : Has Try.prog 16 := ⟨_, Try.func16, rfl, by kernel_rfl⟩
theorem has18 : Has Try.prog 18 := ⟨_, Try.func18, rfl, by kernel_rfl⟩
theorem has19 : Has Try.prog 19 := ⟨_, Try.func19, rfl, by kernel_rfl⟩
theorem has20 : Has Try.prog 20 := ⟨_, Try.func20, rfl, by kernel_rfl⟩
theorem has21 : Has Try.prog 21 := ⟨_, Try.func21, rfl, by kernel_rfl⟩
theorem has22 : Has Try.prog 22 := ⟨_, Try.func22, rfl, by kernel_rfl⟩
theorem has23 : Has Try.prog 23 := ⟨_, Try.func23, rfl, by kernel_rfl⟩
theorem has25 : Has Try.prog 25 := ⟨_, Try.func25, rfl, by kernel_rfl⟩
theorem has27 : Has Try.prog 27 := ⟨_, Try.func27, rfl, by kernel_rfl⟩
theorem has28 : Has Try.prog 28 := ⟨_, Try.func28, rfl, by kernel_rfl⟩
theorem has37 : Has Try.prog 37 := ⟨_, Try.func37, rfl, by kernel_rfl⟩
theorem has39 : Has Try.prog 39 := ⟨_, Try.func39, rfl, by kernel_rfl⟩
theorem has40 : Has Try.prog 40 := ⟨_, Try.func40, rfl, by kernel_rfl⟩
theorem has41 : Has Try.prog 41 := ⟨_, Try.func41, rfl, by kernel_rfl⟩
theorem has43 : Has Try.prog 43 := ⟨_, Try.func43, rfl, by kernel_rfl⟩
theorem has44 : Has Try.prog 44 := ⟨_, Try.func44, rfl, by kernel_rfl⟩
theorem has46 : Has Try.prog 46 := ⟨_, Try.func46, rfl, by kernel_rfl⟩
theorem has48 : Has Try.prog 48 := ⟨_, Try.func48, rfl, by kernel_rfl⟩
end Go.Proofs.Ytekcbgnkikmhpaa
