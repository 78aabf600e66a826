/-
  Walks and laws of this seat; the base is the text Base.
-/
import Derived.Test.YtmkcglpeidbblaaDoorBasg
import Derived.Test.YtmkcglpeidbblaaDoorRows
/-
  The rows of the types' table, and that the functions have bodies: closed facts. Printed by gen.py.
-/
namespace Go.Proofs.YtmkcglpeidbblaaDoor
open Go.Sl
theorem mixed : Tryd.prog.follows .mixedOrders = true := by kernel_rfl
theorem ti3 : TI Tryd.prog 3 1 8 (.int .i64 0) := .of (by kernel_rfl)
theorem ti9 : TI Tryd.prog 9 1 16 (.string ByteArray.empty) := .of (by kernel_rfl)
theorem ti22 : TI Tryd.prog 22 1 24 (.slice none 0 0) := .of (by kernel_rfl)
theorem ti24 : TI Tryd.prog 24 1 24 (.agg #[.slice none 0 0]) := .of (by kernel_rfl)
theorem ti25 : TI Tryd.prog 25 1 24 (.slice none 0 0) := .of (by kernel_rfl)
theorem ti27 : TI Tryd.prog 27 1 24 (.agg #[.slice none 0 0]) := .of (by kernel_rfl)
theorem ti29 : TI Tryd.prog 29 4 48 (.agg #[.int .i64 0, .string ByteArray.empty, .string ByteArray.empty, .int .i64 0]) := .of (by kernel_rfl)
theorem ti33 : TI Tryd.prog 33 1 24 (.slice none 0 0) := .of (by kernel_rfl)
theorem ti35 : TI Tryd.prog 35 3 48 (.agg #[.int .i64 0, .string ByteArray.empty, .slice none 0 0]) := .of (by kernel_rfl)
theorem ti40 : TI Tryd.prog 40 1 24 (.slice none 0 0) := .of (by kernel_rfl)
theorem ti42 : TI Tryd.prog 42 9 104 (.agg #[.int .i64 0, .string ByteArray.empty, .string ByteArray.empty, .slice none 0 0, .int .i64 0, .int .i64 0, .int .i64 0, .int .i64 0, .int .i64 0]) := .of (by kernel_rfl)
theorem ti46 : TI Tryd.prog 46 1 24 (.slice none 0 0) := .of (by kernel_rfl)
theorem ti53 : TI Tryd.prog 53 3 24 (.agg #[.int .i64 0, .int .i64 0, .int .i64 0]) := .of (by kernel_rfl)
theorem ti73 : TI Tryd.prog 73 1 8 (.map none) := .of (by kernel_rfl)
theorem ti74 : TI Tryd.prog 74 1 8 (.nilFunc) := .of (by kernel_rfl)
theorem ti79 : TI Tryd.prog 79 2 16 (.agg #[.int .i64 0, .int .i64 0]) := .of (by kernel_rfl)
theorem ti91 : TI Tryd.prog 91 2 32 (.agg #[.string ByteArray.empty, .string ByteArray.empty]) := .of (by kernel_rfl)
theorem ti92 : TI Tryd.prog 92 1 24 (.slice none 0 0) := .of (by kernel_rfl)
theorem ti94 : TI Tryd.prog 94 4 80 (.agg #[.string ByteArray.empty, .string ByteArray.empty, .slice none 0 0, .slice none 0 0]) := .of (by kernel_rfl)
theorem has11 : Has Tryd.prog 11 := ⟨_, Tryd.func11, rfl, by kernel_rfl⟩
theorem has12 : Has Tryd.prog 12 := ⟨_, Tryd.func12, rfl, by kernel_rfl⟩
theorem has14 : Has Tryd.prog 14 := ⟨_, Tryd.func14, rfl, by kernel_rfl⟩
theorem has15 : Has Tryd.prog 15 := ⟨_, Tryd.func15, rfl, by kernel_rfl⟩
theorem has16 : Has Tryd.prog 16 := ⟨_, Tryd.func16, rfl, by kernel_rfl⟩
theorem has17 : Has Tryd.prog 17 := ⟨_, Tryd.func17, rfl, by kernel_rfl⟩
theorem has18 : Has Tryd.prog 18 := ⟨_, Tryd.func18, rfl, by kernel_rfl⟩
theorem has20 : Has Tryd.prog 20 := ⟨_, Tryd.func20, rfl, by kernel_rfl⟩
theorem has23 : Has Tryd.prog 23 := ⟨_, Tryd.func23, rfl, by kernel_rfl⟩
theorem has25 : Has Tryd.prog 25 := ⟨_, Tryd.func25, rfl, by kernel_rfl⟩
theorem has27 : Has Tryd.prog 27 := ⟨_, Tryd.func27, rfl, by kernel_rfl⟩
theorem has28 : Has Tryd.prog 28 := ⟨_, Tryd.func28, rfl, by kernel_rfl⟩
theorem has29 : Has Tryd.prog 29 := ⟨_, Tryd.func29, rfl, by kernel_rfl⟩
theorem has30 : Has Tryd.prog 30 := ⟨_, Tryd.func30, rfl, by kernel_rfl⟩
theorem has31 : Has Tryd.prog 31 := ⟨_, Tryd.func31, rfl, by kernel_rfl⟩
theorem has32 : Has Tryd.prog 32 := ⟨_, Tryd.func32, rfl, by kernel_rfl⟩
theorem has33 : Has Tryd.prog 33 := ⟨_, Tryd.func33, rfl, by kernel_rfl⟩
theorem has34 : Has Tryd.prog 34 := ⟨_, Tryd.func34, rfl, by kernel_rfl⟩
theorem has38 : Has Tryd.prog 38 := ⟨_, Tryd.func38, rfl, by kernel_rfl⟩
theorem has39 : Has Tryd.prog 39 := ⟨_, Tryd.func39, rfl, by kernel_rfl⟩
theorem has40 : Has Tryd.prog 40 := ⟨_, Tryd.func40, rfl, by kernel_rfl⟩
theorem has42 : Has Tryd.prog 42 := ⟨_, Tryd.func42, rfl, by kernel_rfl⟩
theorem has43 : Has Tryd.prog 43 := ⟨_, Tryd.func43, rfl, by kernel_rfl⟩
theorem has44 : Has Tryd.prog 44 := ⟨_, Tryd.func44, rfl, by kernel_rfl⟩
theorem has45 : Has Tryd.prog 45 := ⟨_, Tryd.func45, rfl, by kernel_rfl⟩
theorem has46 : Has Tryd.prog 46 := ⟨_, Tryd.func46, rfl, by kernel_rfl⟩
theorem has47 : Has Tryd.prog 47 := ⟨_, Tryd.func47, rfl, by kernel_rfl⟩
theorem has48 : Has Tryd.prog 48 := ⟨_, Tryd.func48, rfl, by kernel_rfl⟩
theorem has52 : Has Tryd.prog 52 := ⟨_, Tryd.func52, rfl, by kernel_rfl⟩
theorem has53 : Has Tryd.prog 53 := ⟨_, Tryd.func53, rfl, by kernel_rfl⟩
theorem has54 : Has Tryd.prog 54 := ⟨_, Tryd.func54, rfl, by kernel_rfl⟩
theorem has55 : Has Tryd.prog 55 := ⟨_, Tryd.func55, rfl, by kernel_rfl⟩
end Go.Proofs.YtmkcglpeidbblaaDoor
