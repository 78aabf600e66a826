/-
  Walks and laws of this seat; the base is the text Base.
-/
import Derived.Test.YtklcdfnhdljkjaaDoorBasg
import Derived.Test.YtklcdfnhdljkjaaDoorRows
/-
  The rows of the types' table, and that the functions have bodies: closed facts. Printed by gen.py.
-/
namespace Go.Proofs.YtklcdfnhdljkjaaDoor
open Go.Sl
theorem mixed : Tryd.prog.follows .mixedOrders = true := by kernel_rfl
theorem ti3 : TI Tryd.prog 3 1 8 (.int .i64 0) := .of (by kernel_rfl)
theorem ti4 : TI Tryd.prog 4 1 1 (.bool false) := .of (by kernel_rfl)
theorem ti5 : TI Tryd.prog 5 1 1 (.int .u8 0) := .of (by kernel_rfl)
theorem ti9 : TI Tryd.prog 9 1 16 (.string ByteArray.empty) := .of (by kernel_rfl)
theorem ti21 : TI Tryd.prog 21 1 4 (.int .i32 0) := .of (by kernel_rfl)
theorem ti22 : TI Tryd.prog 22 1 24 (.slice none 0 0) := .of (by kernel_rfl)
theorem ti24 : TI Tryd.prog 24 1 24 (.agg #[.slice none 0 0]) := .of (by kernel_rfl)
theorem ti28 : TI Tryd.prog 28 1 24 (.slice none 0 0) := .of (by kernel_rfl)
theorem ti29 : TI Tryd.prog 29 1 24 (.slice none 0 0) := .of (by kernel_rfl)
theorem ti31 : TI Tryd.prog 31 4 80 (.agg #[.string ByteArray.empty, .string ByteArray.empty, .slice none 0 0, .slice none 0 0]) := .of (by kernel_rfl)
theorem ti37 : TI Tryd.prog 37 9 104 (.agg #[.int .i64 0, .string ByteArray.empty, .string ByteArray.empty, .slice none 0 0, .int .i64 0, .int .i64 0, .int .i64 0, .int .i64 0, .int .i64 0]) := .of (by kernel_rfl)
theorem ti40 : TI Tryd.prog 40 1 8 (.nilFunc) := .of (by kernel_rfl)
theorem ti43 : TI Tryd.prog 43 2 32 (.agg #[.string ByteArray.empty, .string ByteArray.empty]) := .of (by kernel_rfl)
theorem ti47 : TI Tryd.prog 47 1 24 (.slice none 0 0) := .of (by kernel_rfl)
theorem ti50 : TI Tryd.prog 50 1 8 (.pointer none) := .of (by kernel_rfl)
theorem ti51 : TI Tryd.prog 51 1 24 (.slice none 0 0) := .of (by kernel_rfl)
theorem ti53 : TI Tryd.prog 53 2 32 (.agg #[.pointer none, .slice none 0 0]) := .of (by kernel_rfl)
theorem ti54 : TI Tryd.prog 54 1 8 (.nilFunc) := .of (by kernel_rfl)
theorem ti71 : TI Tryd.prog 71 1 4 (.int .u32 0) := .of (by kernel_rfl)
theorem ti73 : TI Tryd.prog 73 1 4 (.agg #[.int .u32 0]) := .of (by kernel_rfl)
theorem ti75 : TI Tryd.prog 75 2 8 (.agg #[.int .i32 0, .int .u32 0]) := .of (by kernel_rfl)
theorem ti77 : TI Tryd.prog 77 2 8 (.agg #[.int .i32 0, .int .u32 0]) := .of (by kernel_rfl)
theorem ti79 : TI Tryd.prog 79 3 12 (.agg #[.int .u32 0, .int .i32 0, .int .u32 0]) := .of (by kernel_rfl)
theorem ti81 : TI Tryd.prog 81 1 16 (.nilIface) := .of (by kernel_rfl)
theorem ti83 : TI Tryd.prog 83 5 56 (.agg #[.int .u32 0, .int .i32 0, .int .u32 0, .nilIface, .slice none 0 0]) := .of (by kernel_rfl)
theorem ti87 : TI Tryd.prog 87 256 256 (.agg #[.int .u8 0, .int .u8 0, .int .u8 0, .int .u8 0, .int .u8 0, .int .u8 0, .int .u8 0, .int .u8 0, .int .u8 0, .int .u8 0, .int .u8 0, .int .u8 0, .int .u8 0, .int .u8 0, .int .u8 0, .int .u8 0, .int .u8 0, .int .u8 0, .int .u8 0, .int .u8 0, .int .u8 0, .int .u8 0, .int .u8 0, .int .u8 0, .int .u8 0, .int .u8 0, .int .u8 0, .int .u8 0, .int .u8 0, .int .u8 0, .int .u8 0, .int .u8 0, .int .u8 0, .int .u8 0, .int .u8 0, .int .u8 0, .int .u8 0, .int .u8 0, .int .u8 0, .int .u8 0, .int .u8 0, .int .u8 0, .int .u8 0, .int .u8 0, .int .u8 0, .int .u8 0, .int .u8 0, .int .u8 0, .int .u8 0, .int .u8 0, .int .u8 0, .int .u8 0, .int .u8 0, .int .u8 0, .int .u8 0, .int .u8 0, .int .u8 0, .int .u8 0, .int .u8 0, .int .u8 0, .int .u8 0, .int .u8 0, .int .u8 0, .int .u8 0, .int .u8 0, .int .u8 0, .int .u8 0, .int .u8 0, .int .u8 0, .int .u8 0, .int .u8 0, .int .u8 0, .int .u8 0, .int .u8 0, .int .u8 0, .int .u8 0, .int .u8 0, .int .u8 0, .int .u8 0, .int .u8 0, .int .u8 0, .int .u8 0, .int .u8 0, .int .u8 0, .int .u8 0, .int .u8 0, .int .u8 0, .int .u8 0, .int .u8 0, .int .u8 0, .int .u8 0, .int .u8 0, .int .u8 0, .int .u8 0, .int .u8 0, .int .u8 0, .int .u8 0, .int .u8 0, .int .u8 0, .int .u8 0, .int .u8 0, .int .u8 0, .int .u8 0, .int .u8 0, .int .u8 0, .int .u8 0, .int .u8 0, .int .u8 0, .int .u8 0, .int .u8 0, .int .u8 0, .int .u8 0, .int .u8 0, .int .u8 0, .int .u8 0, .int .u8 0, .int .u8 0, .int .u8 0, .int .u8 0, .int .u8 0, .int .u8 0, .int .u8 0, .int .u8 0, .int .u8 0, .int .u8 0, .int .u8 0, .int .u8 0, .int .u8 0, .int .u8 0, .int .u8 0, .int .u8 0, .int .u8 0, .int .u8 0, .int .u8 0, .int .u8 0, .int .u8 0, .int .u8 0, .int .u8 0, .int .u8 0, .int .u8 0, .int .u8 0, .int .u8 0, .int .u8 0, .int .u8 0, .int .u8 0, .int .u8 0, .int .u8 0, .int .u8 0, .int .u8 0, .int .u8 0, .int .u8 0, .int .u8 0, .int .u8 0, .int .u8 0, .int .u8 0, .int .u8 0, .int .u8 0, .int .u8 0, .int .u8 0, .int .u8 0, .int .u8 0, .int .u8 0, .int .u8 0, .int .u8 0, .int .u8 0, .int .u8 0, .int .u8 0, .int .u8 0, .int .u8 0, .int .u8 0, .int .u8 0, .int .u8 0, .int .u8 0, .int .u8 0, .int .u8 0, .int .u8 0, .int .u8 0, .int .u8 0, .int .u8 0, .int .u8 0, .int .u8 0, .int .u8 0, .int .u8 0, .int .u8 0, .int .u8 0, .int .u8 0, .int .u8 0, .int .u8 0, .int .u8 0, .int .u8 0, .int .u8 0, .int .u8 0, .int .u8 0, .int .u8 0, .int .u8 0, .int .u8 0, .int .u8 0, .int .u8 0, .int .u8 0, .int .u8 0, .int .u8 0, .int .u8 0, .int .u8 0, .int .u8 0, .int .u8 0, .int .u8 0, .int .u8 0, .int .u8 0, .int .u8 0, .int .u8 0, .int .u8 0, .int .u8 0, .int .u8 0, .int .u8 0, .int .u8 0, .int .u8 0, .int .u8 0, .int .u8 0, .int .u8 0, .int .u8 0, .int .u8 0, .int .u8 0, .int .u8 0, .int .u8 0, .int .u8 0, .int .u8 0, .int .u8 0, .int .u8 0, .int .u8 0, .int .u8 0, .int .u8 0, .int .u8 0, .int .u8 0, .int .u8 0, .int .u8 0, .int .u8 0, .int .u8 0, .int .u8 0, .int .u8 0, .int .u8 0, .int .u8 0, .int .u8 0, .int .u8 0, .int .u8 0, .int .u8 0, .int .u8 0, .int .u8 0, .int .u8 0, .int .u8 0, .int .u8 0, .int .u8 0, .int .u8 0, .int .u8 0, .int .u8 0, .int .u8 0, .int .u8 0]) := .of (by kernel_rfl)
theorem ti122 : TI Tryd.prog 122 1 8 (.pointer none) := .of (by kernel_rfl)
theorem ti123 : TI Tryd.prog 123 1 24 (.slice none 0 0) := .of (by kernel_rfl)
theorem ti125 : TI Tryd.prog 125 5 72 (.agg #[.string ByteArray.empty, .int .i64 0, .string ByteArray.empty, .pointer none, .slice none 0 0]) := .of (by kernel_rfl)
theorem ti160 : TI Tryd.prog 160 1 24 (.slice none 0 0) := .of (by kernel_rfl)
theorem has5 : Has Tryd.prog 5 := ⟨_, Tryd.func5, rfl, by kernel_rfl⟩
theorem has6 : Has Tryd.prog 6 := ⟨_, Tryd.func6, rfl, by kernel_rfl⟩
theorem has7 : Has Tryd.prog 7 := ⟨_, Tryd.func7, rfl, by kernel_rfl⟩
theorem has8 : Has Tryd.prog 8 := ⟨_, Tryd.func8, rfl, by kernel_rfl⟩
theorem has9 : Has Tryd.prog 9 := ⟨_, Tryd.func9, rfl, by kernel_rfl⟩
theorem has10 : Has Tryd.prog 10 := ⟨_, Tryd.func10, rfl, by kernel_rfl⟩
theorem has11 : Has Tryd.prog 11 := ⟨_, Tryd.func11, rfl, by kernel_rfl⟩
theorem has12 : Has Tryd.prog 12 := ⟨_, Tryd.func12, rfl, by kernel_rfl⟩
theorem has13 : Has Tryd.prog 13 := ⟨_, Tryd.func13, rfl, by kernel_rfl⟩
theorem has14 : Has Tryd.prog 14 := ⟨_, Tryd.func14, rfl, by kernel_rfl⟩
theorem has15 : Has Tryd.prog 15 := ⟨_, Tryd.func15, rfl, by kernel_rfl⟩
theorem has16 : Has Tryd.prog 16 := ⟨_, Tryd.func16, rfl, by kernel_rfl⟩
theorem has17 : Has Tryd.prog 17 := ⟨_, Tryd.func17, rfl, by kernel_rfl⟩
theorem has18 : Has Tryd.prog 18 := ⟨_, Tryd.func18, rfl, by kernel_rfl⟩
theorem has19 : Has Tryd.prog 19 := ⟨_, Tryd.func19, rfl, by kernel_rfl⟩
theorem has20 : Has Tryd.prog 20 := ⟨_, Tryd.func20, rfl, by kernel_rfl⟩
theorem has21 : Has Tryd.prog 21 := ⟨_, Tryd.func21, rfl, by kernel_rfl⟩
theorem has22 : Has Tryd.prog 22 := ⟨_, Tryd.func22, rfl, by kernel_rfl⟩
theorem has23 : Has Tryd.prog 23 := ⟨_, Tryd.func23, rfl, by kernel_rfl⟩
theorem has24 : Has Tryd.prog 24 := ⟨_, Tryd.func24, rfl, by kernel_rfl⟩
theorem has25 : Has Tryd.prog 25 := ⟨_, Tryd.func25, rfl, by kernel_rfl⟩
theorem has26 : Has Tryd.prog 26 := ⟨_, Tryd.func26, rfl, by kernel_rfl⟩
theorem has27 : Has Tryd.prog 27 := ⟨_, Tryd.func27, rfl, by kernel_rfl⟩
theorem has28 : Has Tryd.prog 28 := ⟨_, Tryd.func28, rfl, by kernel_rfl⟩
theorem has29 : Has Tryd.prog 29 := ⟨_, Tryd.func29, rfl, by kernel_rfl⟩
theorem has30 : Has Tryd.prog 30 := ⟨_, Tryd.func30, rfl, by kernel_rfl⟩
theorem has31 : Has Tryd.prog 31 := ⟨_, Tryd.func31, rfl, by kernel_rfl⟩
theorem has32 : Has Tryd.prog 32 := ⟨_, Tryd.func32, rfl, by kernel_rfl⟩
theorem has33 : Has Tryd.prog 33 := ⟨_, Tryd.func33, rfl, by kernel_rfl⟩
theorem has34 : Has Tryd.prog 34 := ⟨_, Tryd.func34, rfl, by kernel_rfl⟩
theorem has35 : Has Tryd.prog 35 := ⟨_, Tryd.func35, rfl, by kernel_rfl⟩
theorem has36 : Has Tryd.prog 36 := ⟨_, Tryd.func36, rfl, by kernel_rfl⟩
theorem has38 : Has Tryd.prog 38 := ⟨_, Tryd.func38, rfl, by kernel_rfl⟩
theorem has40 : Has Tryd.prog 40 := ⟨_, Tryd.func40, rfl, by kernel_rfl⟩
theorem has41 : Has Tryd.prog 41 := ⟨_, Tryd.func41, rfl, by kernel_rfl⟩
theorem has42 : Has Tryd.prog 42 := ⟨_, Tryd.func42, rfl, by kernel_rfl⟩
theorem has43 : Has Tryd.prog 43 := ⟨_, Tryd.func43, rfl, by kernel_rfl⟩
theorem has45 : Has Tryd.prog 45 := ⟨_, Tryd.func45, rfl, by kernel_rfl⟩
theorem has46 : Has Tryd.prog 46 := ⟨_, Tryd.func46, rfl, by kernel_rfl⟩
theorem has47 : Has Tryd.prog 47 := ⟨_, Tryd.func47, rfl, by kernel_rfl⟩
theorem has49 : Has Tryd.prog 49 := ⟨_, Tryd.func49, rfl, by kernel_rfl⟩
theorem has50 : Has Tryd.prog 50 := ⟨_, Tryd.func50, rfl, by kernel_rfl⟩
theorem has54 : Has Tryd.prog 54 := ⟨_, Tryd.func54, rfl, by kernel_rfl⟩
theorem has55 : Has Tryd.prog 55 := ⟨_, Tryd.func55, rfl, by kernel_rfl⟩
theorem has57 : Has Tryd.prog 57 := ⟨_, Tryd.func57, rfl, by kernel_rfl⟩
theorem has59 : Has Tryd.prog 59 := ⟨_, Tryd.func59, rfl, by kernel_rfl⟩
theorem has70 : Has Tryd.prog 70 := ⟨_, Tryd.func70, rfl, by kernel_rfl⟩
theorem has79 : Has Tryd.prog 79 := ⟨_, Tryd.func79, rfl, by kernel_rfl⟩
theorem has103 : Has Tryd.prog 103 := ⟨_, Tryd.func103, rfl, by kernel_rfl⟩
theorem has104 : Has Tryd.prog 104 := ⟨_, Tryd.func104, rfl, by kernel_rfl⟩
theorem has105 : Has Tryd.prog 105 := ⟨_, Tryd.func105, rfl, by kernel_rfl⟩
theorem has106 : Has Tryd.prog 106 := ⟨_, Tryd.func106, rfl, by kernel_rfl⟩
theorem has116 : Has Tryd.prog 116 := ⟨_, Tryd.func116, rfl, by kernel_rfl⟩
end Go.Proofs.YtklcdfnhdljkjaaDoor
