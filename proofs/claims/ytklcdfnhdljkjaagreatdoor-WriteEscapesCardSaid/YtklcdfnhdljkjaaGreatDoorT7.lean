/-
  Walks and laws of this seat; the base is the text Base.
-/
import Derived.Test.YtklcdfnhdljkjaaGreatDoorBasg
import Derived.Test.YtklcdfnhdljkjaaGreatDoorRows
/-
  The rows of the types' table, and that the functions have bodies: closed facts. Printed by gen.py.
-/
namespace Go.Proofs.YtklcdfnhdljkjaaGreatDoor
open Go.Sl
theorem mixed : Tryz.prog.follows .mixedOrders = true := by kernel_rfl
theorem ti3 : TI Tryz.prog 3 1 8 (.int .i64 0) := .of (by kernel_rfl)
theorem ti4 : TI Tryz.prog 4 1 1 (.bool false) := .of (by kernel_rfl)
theorem ti5 : TI Tryz.prog 5 1 1 (.int .u8 0) := .of (by kernel_rfl)
theorem ti9 : TI Tryz.prog 9 1 16 (.string ByteArray.empty) := .of (by kernel_rfl)
theorem ti21 : TI Tryz.prog 21 1 4 (.int .i32 0) := .of (by kernel_rfl)
theorem ti28 : TI Tryz.prog 28 1 24 (.slice none 0 0) := .of (by kernel_rfl)
theorem ti30 : TI Tryz.prog 30 1 24 (.agg #[.slice none 0 0]) := .of (by kernel_rfl)
theorem ti36 : TI Tryz.prog 36 1 24 (.slice none 0 0) := .of (by kernel_rfl)
theorem ti42 : TI Tryz.prog 42 2 32 (.agg #[.string ByteArray.empty, .string ByteArray.empty]) := .of (by kernel_rfl)
theorem ti43 : TI Tryz.prog 43 1 24 (.slice none 0 0) := .of (by kernel_rfl)
theorem ti44 : TI Tryz.prog 44 1 24 (.slice none 0 0) := .of (by kernel_rfl)
theorem ti46 : TI Tryz.prog 46 4 80 (.agg #[.string ByteArray.empty, .string ByteArray.empty, .slice none 0 0, .slice none 0 0]) := .of (by kernel_rfl)
theorem ti47 : TI Tryz.prog 47 1 24 (.slice none 0 0) := .of (by kernel_rfl)
theorem ti53 : TI Tryz.prog 53 9 104 (.agg #[.int .i64 0, .string ByteArray.empty, .string ByteArray.empty, .slice none 0 0, .int .i64 0, .int .i64 0, .int .i64 0, .int .i64 0, .int .i64 0]) := .of (by kernel_rfl)
theorem ti57 : TI Tryz.prog 57 1 8 (.pointer none) := .of (by kernel_rfl)
theorem ti59 : TI Tryz.prog 59 2 32 (.agg #[.pointer none, .slice none 0 0]) := .of (by kernel_rfl)
theorem ti60 : TI Tryz.prog 60 1 8 (.nilFunc) := .of (by kernel_rfl)
theorem ti72 : TI Tryz.prog 72 1 8 (.nilFunc) := .of (by kernel_rfl)
theorem ti77 : TI Tryz.prog 77 1 4 (.int .u32 0) := .of (by kernel_rfl)
theorem ti79 : TI Tryz.prog 79 1 4 (.agg #[.int .u32 0]) := .of (by kernel_rfl)
theorem ti81 : TI Tryz.prog 81 2 8 (.agg #[.int .i32 0, .int .u32 0]) := .of (by kernel_rfl)
theorem ti83 : TI Tryz.prog 83 2 8 (.agg #[.int .i32 0, .int .u32 0]) := .of (by kernel_rfl)
theorem ti85 : TI Tryz.prog 85 3 12 (.agg #[.int .u32 0, .int .i32 0, .int .u32 0]) := .of (by kernel_rfl)
theorem ti87 : TI Tryz.prog 87 1 16 (.nilIface) := .of (by kernel_rfl)
theorem ti89 : TI Tryz.prog 89 5 56 (.agg #[.int .u32 0, .int .i32 0, .int .u32 0, .nilIface, .slice none 0 0]) := .of (by kernel_rfl)
theorem ti126 : TI Tryz.prog 126 256 256 (.agg #[.int .u8 0, .int .u8 0, .int .u8 0, .int .u8 0, .int .u8 0, .int .u8 0, .int .u8 0, .int .u8 0, .int .u8 0, .int .u8 0, .int .u8 0, .int .u8 0, .int .u8 0, .int .u8 0, .int .u8 0, .int .u8 0, .int .u8 0, .int .u8 0, .int .u8 0, .int .u8 0, .int .u8 0, .int .u8 0, .int .u8 0, .int .u8 0, .int .u8 0, .int .u8 0, .int .u8 0, .int .u8 0, .int .u8 0, .int .u8 0, .int .u8 0, .int .u8 0, .int .u8 0, .int .u8 0, .int .u8 0, .int .u8 0, .int .u8 0, .int .u8 0, .int .u8 0, .int .u8 0, .int .u8 0, .int .u8 0, .int .u8 0, .int .u8 0, .int .u8 0, .int .u8 0, .int .u8 0, .int .u8 0, .int .u8 0, .int .u8 0, .int .u8 0, .int .u8 0, .int .u8 0, .int .u8 0, .int .u8 0, .int .u8 0, .int .u8 0, .int .u8 0, .int .u8 0, .int .u8 0, .int .u8 0, .int .u8 0, .int .u8 0, .int .u8 0, .int .u8 0, .int .u8 0, .int .u8 0, .int .u8 0, .int .u8 0, .int .u8 0, .int .u8 0, .int .u8 0, .int .u8 0, .int .u8 0, .int .u8 0, .int .u8 0, .int .u8 0, .int .u8 0, .int .u8 0, .int .u8 0, .int .u8 0, .int .u8 0, .int .u8 0, .int .u8 0, .int .u8 0, .int .u8 0, .int .u8 0, .int .u8 0, .int .u8 0, .int .u8 0, .int .u8 0, .int .u8 0, .int .u8 0, .int .u8 0, .int .u8 0, .int .u8 0, .int .u8 0, .int .u8 0, .int .u8 0, .int .u8 0, .int .u8 0, .int .u8 0, .int .u8 0, .int .u8 0, .int .u8 0, .int .u8 0, .int .u8 0, .int .u8 0, .int .u8 0, .int .u8 0, .int .u8 0, .int .u8 0, .int .u8 0, .int .u8 0, .int .u8 0, .int .u8 0, .int .u8 0, .int .u8 0, .int .u8 0, .int .u8 0, .int .u8 0, .int .u8 0, .int .u8 0, .int .u8 0, .int .u8 0, .int .u8 0, .int .u8 0, .int .u8 0, .int .u8 0, .int .u8 0, .int .u8 0, .int .u8 0, .int .u8 0, .int .u8 0, .int .u8 0, .int .u8 0, .int .u8 0, .int .u8 0, .int .u8 0, .int .u8 0, .int .u8 0, .int .u8 0, .int .u8 0, .int .u8 0, .int .u8 0, .int .u8 0, .int .u8 0, .int .u8 0, .int .u8 0, .int .u8 0, .int .u8 0, .int .u8 0, .int .u8 0, .int .u8 0, .int .u8 0, .int .u8 0, .int .u8 0, .int .u8 0, .int .u8 0, .int .u8 0, .int .u8 0, .int .u8 0, .int .u8 0, .int .u8 0, .int .u8 0, .int .u8 0, .int .u8 0, .int .u8 0, .int .u8 0, .int .u8 0, .int .u8 0, .int .u8 0, .int .u8 0, .int .u8 0, .int .u8 0, .int .u8 0, .int .u8 0, .int .u8 0, .int .u8 0, .int .u8 0, .int .u8 0, .int .u8 0, .int .u8 0, .int .u8 0, .int .u8 0, .int .u8 0, .int .u8 0, .int .u8 0, .int .u8 0, .int .u8 0, .int .u8 0, .int .u8 0, .int .u8 0, .int .u8 0, .int .u8 0, .int .u8 0, .int .u8 0, .int .u8 0, .int .u8 0, .int .u8 0, .int .u8 0, .int .u8 0, .int .u8 0, .int .u8 0, .int .u8 0, .int .u8 0, .int .u8 0, .int .u8 0, .int .u8 0, .int .u8 0, .int .u8 0, .int .u8 0, .int .u8 0, .int .u8 0, .int .u8 0, .int .u8 0, .int .u8 0, .int .u8 0, .int .u8 0, .int .u8 0, .int .u8 0, .int .u8 0, .int .u8 0, .int .u8 0, .int .u8 0, .int .u8 0, .int .u8 0, .int .u8 0, .int .u8 0, .int .u8 0, .int .u8 0, .int .u8 0, .int .u8 0, .int .u8 0, .int .u8 0, .int .u8 0, .int .u8 0, .int .u8 0, .int .u8 0, .int .u8 0, .int .u8 0, .int .u8 0, .int .u8 0, .int .u8 0, .int .u8 0, .int .u8 0, .int .u8 0, .int .u8 0, .int .u8 0, .int .u8 0, .int .u8 0, .int .u8 0, .int .u8 0, .int .u8 0, .int .u8 0, .int .u8 0]) := .of (by kernel_rfl)
theorem ti178 : TI Tryz.prog 178 1 8 (.pointer none) := .of (by kernel_rfl)
theorem ti179 : TI Tryz.prog 179 1 24 (.slice none 0 0) := .of (by kernel_rfl)
theorem ti181 : TI Tryz.prog 181 5 72 (.agg #[.string ByteArray.empty, .int .i64 0, .string ByteArray.empty, .pointer none, .slice none 0 0]) := .of (by kernel_rfl)
theorem ti218 : TI Tryz.prog 218 1 24 (.slice none 0 0) := .of (by kernel_rfl)
theorem has5 : Has Tryz.prog 5 := ⟨_, Tryz.func5, rfl, by kernel_rfl⟩
theorem has6 : Has Tryz.prog 6 := ⟨_, Tryz.func6, rfl, by kernel_rfl⟩
theorem has7 : Has Tryz.prog 7 := ⟨_, Tryz.func7, rfl, by kernel_rfl⟩
theorem has8 : Has Tryz.prog 8 := ⟨_, Tryz.func8, rfl, by kernel_rfl⟩
theorem has9 : Has Tryz.prog 9 := ⟨_, Tryz.func9, rfl, by kernel_rfl⟩
theorem has10 : Has Tryz.prog 10 := ⟨_, Tryz.func10, rfl, by kernel_rfl⟩
theorem has11 : Has Tryz.prog 11 := ⟨_, Tryz.func11, rfl, by kernel_rfl⟩
theorem has15 : Has Tryz.prog 15 := ⟨_, Tryz.func15, rfl, by kernel_rfl⟩
theorem has16 : Has Tryz.prog 16 := ⟨_, Tryz.func16, rfl, by kernel_rfl⟩
theorem has17 : Has Tryz.prog 17 := ⟨_, Tryz.func17, rfl, by kernel_rfl⟩
theorem has18 : Has Tryz.prog 18 := ⟨_, Tryz.func18, rfl, by kernel_rfl⟩
theorem has19 : Has Tryz.prog 19 := ⟨_, Tryz.func19, rfl, by kernel_rfl⟩
theorem has20 : Has Tryz.prog 20 := ⟨_, Tryz.func20, rfl, by kernel_rfl⟩
theorem has21 : Has Tryz.prog 21 := ⟨_, Tryz.func21, rfl, by kernel_rfl⟩
theorem has22 : Has Tryz.prog 22 := ⟨_, Tryz.func22, rfl, by kernel_rfl⟩
theorem has23 : Has Tryz.prog 23 := ⟨_, Tryz.func23, rfl, by kernel_rfl⟩
theorem has24 : Has Tryz.prog 24 := ⟨_, Tryz.func24, rfl, by kernel_rfl⟩
theorem has25 : Has Tryz.prog 25 := ⟨_, Tryz.func25, rfl, by kernel_rfl⟩
theorem has26 : Has Tryz.prog 26 := ⟨_, Tryz.func26, rfl, by kernel_rfl⟩
theorem has27 : Has Tryz.prog 27 := ⟨_, Tryz.func27, rfl, by kernel_rfl⟩
theorem has28 : Has Tryz.prog 28 := ⟨_, Tryz.func28, rfl, by kernel_rfl⟩
theorem has32 : Has Tryz.prog 32 := ⟨_, Tryz.func32, rfl, by kernel_rfl⟩
theorem has33 : Has Tryz.prog 33 := ⟨_, Tryz.func33, rfl, by kernel_rfl⟩
theorem has34 : Has Tryz.prog 34 := ⟨_, Tryz.func34, rfl, by kernel_rfl⟩
theorem has35 : Has Tryz.prog 35 := ⟨_, Tryz.func35, rfl, by kernel_rfl⟩
theorem has36 : Has Tryz.prog 36 := ⟨_, Tryz.func36, rfl, by kernel_rfl⟩
theorem has37 : Has Tryz.prog 37 := ⟨_, Tryz.func37, rfl, by kernel_rfl⟩
theorem has38 : Has Tryz.prog 38 := ⟨_, Tryz.func38, rfl, by kernel_rfl⟩
theorem has39 : Has Tryz.prog 39 := ⟨_, Tryz.func39, rfl, by kernel_rfl⟩
theorem has40 : Has Tryz.prog 40 := ⟨_, Tryz.func40, rfl, by kernel_rfl⟩
theorem has41 : Has Tryz.prog 41 := ⟨_, Tryz.func41, rfl, by kernel_rfl⟩
theorem has42 : Has Tryz.prog 42 := ⟨_, Tryz.func42, rfl, by kernel_rfl⟩
theorem has60 : Has Tryz.prog 60 := ⟨_, Tryz.func60, rfl, by kernel_rfl⟩
theorem has61 : Has Tryz.prog 61 := ⟨_, Tryz.func61, rfl, by kernel_rfl⟩
theorem has62 : Has Tryz.prog 62 := ⟨_, Tryz.func62, rfl, by kernel_rfl⟩
theorem has63 : Has Tryz.prog 63 := ⟨_, Tryz.func63, rfl, by kernel_rfl⟩
theorem has65 : Has Tryz.prog 65 := ⟨_, Tryz.func65, rfl, by kernel_rfl⟩
theorem has94 : Has Tryz.prog 94 := ⟨_, Tryz.func94, rfl, by kernel_rfl⟩
theorem has95 : Has Tryz.prog 95 := ⟨_, Tryz.func95, rfl, by kernel_rfl⟩
theorem has96 : Has Tryz.prog 96 := ⟨_, Tryz.func96, rfl, by kernel_rfl⟩
theorem has98 : Has Tryz.prog 98 := ⟨_, Tryz.func98, rfl, by kernel_rfl⟩
theorem has99 : Has Tryz.prog 99 := ⟨_, Tryz.func99, rfl, by kernel_rfl⟩
theorem has102 : Has Tryz.prog 102 := ⟨_, Tryz.func102, rfl, by kernel_rfl⟩
theorem has103 : Has Tryz.prog 103 := ⟨_, Tryz.func103, rfl, by kernel_rfl⟩
theorem has108 : Has Tryz.prog 108 := ⟨_, Tryz.func108, rfl, by kernel_rfl⟩
theorem has109 : Has Tryz.prog 109 := ⟨_, Tryz.func109, rfl, by kernel_rfl⟩
theorem has111 : Has Tryz.prog 111 := ⟨_, Tryz.func111, rfl, by kernel_rfl⟩
theorem has113 : Has Tryz.prog 113 := ⟨_, Tryz.func113, rfl, by kernel_rfl⟩
theorem has120 : Has Tryz.prog 120 := ⟨_, Tryz.func120, rfl, by kernel_rfl⟩
theorem has164 : Has Tryz.prog 164 := ⟨_, Tryz.func164, rfl, by kernel_rfl⟩
theorem has165 : Has Tryz.prog 165 := ⟨_, Tryz.func165, rfl, by kernel_rfl⟩
theorem has166 : Has Tryz.prog 166 := ⟨_, Tryz.func166, rfl, by kernel_rfl⟩
theorem has167 : Has Tryz.prog 167 := ⟨_, Tryz.func167, rfl, by kernel_rfl⟩
theorem has177 : Has Tryz.prog 177 := ⟨_, Tryz.func177, rfl, by kernel_rfl⟩
end Go.Proofs.YtklcdfnhdljkjaaGreatDoor
