/-
  Walks and laws of this seat; the base is the text Base.
-/
import Derived.Test.YthmnohdlhlmmpaaBasg
import Derived.Test.YthmnohdlhlmmpaaRows
/-
  The rows of the types' table, and that the functions have bodies: closed facts. Printed by gen.py.
-/
namespace Go.Proofs.Ythmnohdlhlmmpaa
open Go.Sl
theorem mixed : Try.prog.follows .mixedOrders = true := by kernel_rfl
theorem ti3 : TI Try.prog 3 1 8 (.int .i64 0) := .of (by kernel_rfl)
theorem ti4 : TI Try.prog 4 1 1 (.bool false) := .of (by kernel_rfl)
theorem ti5 : TI Try.prog 5 1 1 (.int .u8 0) := .of (by kernel_rfl)
theorem ti9 : TI Try.prog 9 1 16 (.string ByteArray.empty) := .of (by kernel_rfl)
theorem ti21 : TI Try.prog 21 1 4 (.int .i32 0) := .of (by kernel_rfl)
theorem ti23 : TI Try.prog 23 1 24 (.slice none 0 0) := .of (by kernel_rfl)
theorem ti25 : TI Try.prog 25 5 72 (.agg #[.int .i64 0, .string ByteArray.empty, .string ByteArray.empty, .slice none 0 0, .bool false]) := .of (by kernel_rfl)
theorem ti29 : TI Try.prog 29 2 32 (.agg #[.string ByteArray.empty, .string ByteArray.empty]) := .of (by kernel_rfl)
theorem ti32 : TI Try.prog 32 1 24 (.slice none 0 0) := .of (by kernel_rfl)
theorem ti37 : TI Try.prog 37 1 24 (.slice none 0 0) := .of (by kernel_rfl)
theorem ti44 : TI Try.prog 44 5 72 (.agg #[.int .i64 0, .string ByteArray.empty, .string ByteArray.empty, .slice none 0 0, .bool false]) := .of (by kernel_rfl)
theorem ti46 : TI Try.prog 46 1 24 (.slice none 0 0) := .of (by kernel_rfl)
theorem ti48 : TI Try.prog 48 4 64 (.agg #[.slice none 0 0, .slice none 0 0, .int .i64 0, .bool false]) := .of (by kernel_rfl)
theorem ti55 : TI Try.prog 55 1 8 (.pointer none) := .of (by kernel_rfl)
theorem ti56 : TI Try.prog 56 1 24 (.slice none 0 0) := .of (by kernel_rfl)
theorem ti58 : TI Try.prog 58 2 32 (.agg #[.pointer none, .slice none 0 0]) := .of (by kernel_rfl)
theorem ti68 : TI Try.prog 68 1 8 (.pointer none) := .of (by kernel_rfl)
theorem ti71 : TI Try.prog 71 2 32 (.agg #[.pointer none, .slice none 0 0]) := .of (by kernel_rfl)
theorem ti94 : TI Try.prog 94 2 32 (.agg #[.slice none 0 0, .int .i64 0]) := .of (by kernel_rfl)
theorem has12 : Has Try.prog 12 := ⟨_, Try.func12, rfl, by kernel_rfl⟩
theorem has13 : Has Try.prog 13 := ⟨_, Try.func13, rfl, by kernel_rfl⟩
theorem has15 : Has Try.prog 15 := ⟨_, Try.func15, rfl, by kernel_rfl⟩
theorem has16 : Has Try.prog 16 := ⟨_, Try.func16, rfl, by kernel_rfl⟩
theorem has17 : Has Try.prog 17 := ⟨_, Try.func17, rfl, by kernel_rfl⟩
theorem has18 : Has Try.prog 18 := ⟨_, Try.func18, rfl, by kernel_rfl⟩
theorem has19 : Has Try.prog 19 := ⟨_, Try.func19, rfl, by kernel_rfl⟩
theorem has21 : Has Try.prog 21 := ⟨_, Try.func21, rfl, by kernel_rfl⟩
theorem has22 : Has Try.prog 22 := ⟨_, Try.func22, rfl, by kernel_rfl⟩
theorem has23 : Has Try.prog 23 := ⟨_, Try.func23, rfl, by kernel_rfl⟩
theorem has26 : Has Try.prog 26 := ⟨_, Try.func26, rfl, by kernel_rfl⟩
theorem has28 : Has Try.prog 28 := ⟨_, Try.func28, rfl, by kernel_rfl⟩
theorem has29 : Has Try.prog 29 := ⟨_, Try.func29, rfl, by kernel_rfl⟩
theorem has30 : Has Try.prog 30 := ⟨_, Try.func30, rfl, by kernel_rfl⟩
theorem has33 : Has Try.prog 33 := ⟨_, Try.func33, rfl, by kernel_rfl⟩
theorem has34 : Has Try.prog 34 := ⟨_, Try.func34, rfl, by kernel_rfl⟩
theorem has35 : Has Try.prog 35 := ⟨_, Try.func35, rfl, by kernel_rfl⟩
theorem has36 : Has Try.prog 36 := ⟨_, Try.func36, rfl, by kernel_rfl⟩
theorem has37 : Has Try.prog 37 := ⟨_, Try.func37, rfl, by kernel_rfl⟩
theorem has38 : Has Try.prog 38 := ⟨_, Try.func38, rfl, by kernel_rfl⟩
theorem has39 : Has Try.prog 39 := ⟨_, Try.func39, rfl, by kernel_rfl⟩
theorem has40 : Has Try.prog 40 := ⟨_, Try.func40, rfl, by kernel_rfl⟩
theorem has41 : Has Try.prog 41 := ⟨_, Try.func41, rfl, by kernel_rfl⟩
theorem has42 : Has Try.prog 42 := ⟨_, Try.func42, rfl, by kernel_rfl⟩
theorem has43 : Has Try.prog 43 := ⟨_, Try.func43, rfl, by kernel_rfl⟩
theorem has44 : Has Try.prog 44 := ⟨_, Try.func44, rfl, by kernel_rfl⟩
theorem has45 : Has Try.prog 45 := ⟨_, Try.func45, rfl, by kernel_rfl⟩
theorem has46 : Has Try.prog 46 := ⟨_, Try.func46, rfl, by kernel_rfl⟩
theorem has47 : Has Try.prog 47 := ⟨_, Try.func47, rfl, by kernel_rfl⟩
theorem has48 : Has Try.prog 48 := ⟨_, Try.func48, rfl, by kernel_rfl⟩
theorem has49 : Has Try.prog 49 := ⟨_, Try.func49, rfl, by kernel_rfl⟩
theorem has50 : Has Try.prog 50 := ⟨_, Try.func50, rfl, by kernel_rfl⟩
theorem has51 : Has Try.prog 51 := ⟨_, Try.func51, rfl, by kernel_rfl⟩
theorem has52 : Has Try.prog 52 := ⟨_, Try.func52, rfl, by kernel_rfl⟩
theorem has53 : Has Try.prog 53 := ⟨_, Try.func53, rfl, by kernel_rfl⟩
theorem has54 : Has Try.prog 54 := ⟨_, Try.func54, rfl, by kernel_rfl⟩
theorem has55 : Has Try.prog 55 := ⟨_, Try.func55, rfl, by kernel_rfl⟩
theorem has57 : Has Try.prog 57 := ⟨_, Try.func57, rfl, by kernel_rfl⟩
theorem has58 : Has Try.prog 58 := ⟨_, Try.func58, rfl, by kernel_rfl⟩
theorem has59 : Has Try.prog 59 := ⟨_, Try.func59, rfl, by kernel_rfl⟩
theorem has60 : Has Try.prog 60 := ⟨_, Try.func60, rfl, by kernel_rfl⟩
theorem has61 : Has Try.prog 61 := ⟨_, Try.func61, rfl, by kernel_rfl⟩
theorem has62 : Has Try.prog 62 := ⟨_, Try.func62, rfl, by kernel_rfl⟩
theorem has63 : Has Try.prog 63 := ⟨_, Try.func63, rfl, by kernel_rfl⟩
theorem has64 : Has Try.prog 64 := ⟨_, Try.func64, rfl, by kernel_rfl⟩
theorem has65 : Has Try.prog 65 := ⟨_, Try.func65, rfl, by kernel_rfl⟩
theorem has66 : Has Try.prog 66 := ⟨_, Try.func66, rfl, by kernel_rfl⟩
theorem has67 : Has Try.prog 67 := ⟨_, Try.func67, rfl, by kernel_rfl⟩
theorem has68 : Has Try.prog 68 := ⟨_, Try.func68, rfl, by kernel_rfl⟩
theorem has69 : Has Try.prog 69 := ⟨_, Try.func69, rfl, by kernel_rfl⟩
theorem has70 : Has Try.prog 70 := ⟨_, Try.func70, rfl, by kernel_rfl⟩
theorem has71 : Has Try.prog 71 := ⟨_, Try.func71, rfl, by kernel_rfl⟩
theorem has72 : Has Try.prog 72 := ⟨_, Try.func72, rfl, by kernel_rfl⟩
theorem has73 : Has Try.prog 73 := ⟨_, Try.func73, rfl, by kernel_rfl⟩
theorem has74 : Has Try.prog 74 := ⟨_, Try.func74, rfl, by kernel_rfl⟩
theorem has75 : Has Try.prog 75 := ⟨_, Try.func75, rfl, by kernel_rfl⟩
theorem has76 : Has Try.prog 76 := ⟨_, Try.func76, rfl, by kernel_rfl⟩
theorem has77 : Has Try.prog 77 := ⟨_, Try.func77, rfl, by kernel_rfl⟩
theorem has79 : Has Try.prog 79 := ⟨_, Try.func79, rfl, by kernel_rfl⟩
theorem has81 : Has Try.prog 81 := ⟨_, Try.func81, rfl, by kernel_rfl⟩
theorem has82 : Has Try.prog 82 := ⟨_, Try.func82, rfl, by kernel_rfl⟩
theorem has83 : Has Try.prog 83 := ⟨_, Try.func83, rfl, by kernel_rfl⟩
end Go.Proofs.Ythmnohdlhlmmpaa
