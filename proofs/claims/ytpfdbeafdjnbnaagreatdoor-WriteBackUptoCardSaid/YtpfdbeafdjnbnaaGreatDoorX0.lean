/-
  Walks and laws of this seat.
-/
import Derived.Test.YtpfdbeafdjnbnaaGreatDoorBash
import Derived.Test.YtpfdbeafdjnbnaaGreatDoorRows
import Derived.Lib.Bytealg
namespace Go.Proofs.YtpfdbeafdjnbnaaGreatDoor
set_option linter.unusedVariables false
set_option linter.unusedSimpArgs false
set_option linter.unusedSectionVars false
section
open Go.Sl
theorem U99 : type_of% Tryz.underlying99 := Tryz.underlying99
theorem U97 : type_of% Tryz.underlying97 := Tryz.underlying97
theorem U102 : type_of% Tryz.underlying102 := Tryz.underlying102
theorem U69 : type_of% Tryz.underlying69 := Tryz.underlying69
theorem U4 : type_of% Tryz.underlying4 := Tryz.underlying4
theorem U30 : type_of% Tryz.underlying30 := Tryz.underlying30
theorem U104 : type_of% Tryz.underlying104 := Tryz.underlying104
theorem U3 : type_of% Tryz.underlying3 := Tryz.underlying3
theorem U9 : type_of% Tryz.underlying9 := Tryz.underlying9
theorem U43 : type_of% Tryz.underlying43 := Tryz.underlying43
theorem U181 : type_of% Tryz.underlying181 := Tryz.underlying181
theorem U179 : type_of% Tryz.underlying179 := Tryz.underlying179
theorem U183 : type_of% Tryz.underlying183 := Tryz.underlying183
theorem U126 : type_of% Tryz.underlying126 := Tryz.underlying126
theorem U5 : type_of% Tryz.underlying5 := Tryz.underlying5
theorem U178 : type_of% Tryz.underlying178 := Tryz.underlying178
theorem U21 : type_of% Tryz.underlying21 := Tryz.underlying21
theorem U24 : type_of% Tryz.underlying24 := Tryz.underlying24
theorem U42 : type_of% Tryz.underlying42 := Tryz.underlying42
theorem U53 : type_of% Tryz.underlying53 := Tryz.underlying53
theorem U28 : type_of% Tryz.underlying28 := Tryz.underlying28
theorem U112 : type_of% Tryz.underlying112 := Tryz.underlying112
theorem U109 : type_of% Tryz.underlying109 := Tryz.underlying109
theorem U81 : type_of% Tryz.underlying81 := Tryz.underlying81
theorem U132 : type_of% Tryz.underlying132 := Tryz.underlying132
theorem U54 : type_of% Tryz.underlying54 := Tryz.underlying54
theorem U47 : type_of% Tryz.underlying47 := Tryz.underlying47
theorem U61 : type_of% Tryz.underlying61 := Tryz.underlying61
theorem U96 : type_of% Tryz.underlying96 := Tryz.underlying96
theorem U46 : type_of% Tryz.underlying46 := Tryz.underlying46
theorem U44 : type_of% Tryz.underlying44 := Tryz.underlying44
theorem U144 : type_of% Tryz.underlying144 := Tryz.underlying144
theorem U85 : type_of% Tryz.underlying85 := Tryz.underlying85
theorem U218 : type_of% Tryz.underlying218 := Tryz.underlying218
theorem U36 : type_of% Tryz.underlying36 := Tryz.underlying36
theorem U89 : type_of% Tryz.underlying89 := Tryz.underlying89
theorem U167 : type_of% Tryz.underlying167 := Tryz.underlying167
theorem U59 : type_of% Tryz.underlying59 := Tryz.underlying59
theorem U57 : type_of% Tryz.underlying57 := Tryz.underlying57
theorem mixed : Tryz.prog.follows .mixedOrders = true := by kernel_rfl
theorem ti3 : TI Tryz.prog 3 1 8 (.int .i64 0) := .of (by kernel_rfl)
theorem ti4 : TI Tryz.prog 4 1 1 (.bool false) := .of (by kernel_rfl)
theorem ti5 : TI Tryz.prog 5 1 1 (.int .u8 0) := .of (by kernel_rfl)
theorem ti9 : TI Tryz.prog 9 1 16 (.string ByteArray.empty) := .of (by kernel_rfl)
theorem ti21 : TI Tryz.prog 21 1 4 (.int .i32 0) := .of (by kernel_rfl)
theorem ti24 : TI Tryz.prog 24 1 24 (.slice none 0 0) := .of (by kernel_rfl)
theorem ti28 : TI Tryz.prog 28 1 24 (.slice none 0 0) := .of (by kernel_rfl)
theorem ti30 : TI Tryz.prog 30 1 24 (.agg #[.slice none 0 0]) := .of (by kernel_rfl)
theorem ti36 : TI Tryz.prog 36 1 24 (.slice none 0 0) := .of (by kernel_rfl)
theorem ti42 : TI Tryz.prog 42 2 32 (.agg #[.string ByteArray.empty, .string ByteArray.empty]) := .of (by kernel_rfl)
theorem ti43 : TI Tryz.prog 43 1 24 (.slice none 0 0) := .of (by kernel_rfl)
theorem ti44 : TI Tryz.prog 44 1 24 (.slice none 0 0) := .of (by kernel_rfl)
theorem ti46 : TI Tryz.prog 46 4 80 (.agg #[.string ByteArray.empty, .string ByteArray.empty, .slice none 0 0, .slice none 0 0]) := .of (by kernel_rfl)
theorem ti47 : TI Tryz.prog 47 1 24 (.slice none 0 0) := .of (by kernel_rfl)
theorem ti53 : TI Tryz.prog 53 9 104 (.agg #[.int .i64 0, .string ByteArray.empty, .string ByteArray.empty, .slice none 0 0, .int .i64 0, .int .i64 0, .int .i64 0, .int .i64 0, .int .i64 0]) := .of (by kernel_rfl)
theorem ti57 : TI Tryz.prog 57 1 8 (.pointer none) := .of (by kernel_rfl)
theorem ti59 : TI Tryz.prog 59 2 32 (.agg #[.pointer none, .slice none 0 0]) := .of (by kernel_rfl)
theorem ti60 : TI Tryz.prog 60 1 8 (.nilFunc) := .of (by kernel_rfl)
theorem ti69 : TI Tryz.prog 69 1 24 (.slice none 0 0) := .of (by kernel_rfl)
theorem ti72 : TI Tryz.prog 72 1 8 (.nilFunc) := .of (by kernel_rfl)
theorem ti77 : TI Tryz.prog 77 1 4 (.int .u32 0) := .of (by kernel_rfl)
theorem ti79 : TI Tryz.prog 79 1 4 (.agg #[.int .u32 0]) := .of (by kernel_rfl)
theorem ti81 : TI Tryz.prog 81 2 8 (.agg #[.int .i32 0, .int .u32 0]) := .of (by kernel_rfl)
theorem ti83 : TI Tryz.prog 83 2 8 (.agg #[.int .i32 0, .int .u32 0]) := .of (by kernel_rfl)
theorem ti85 : TI Tryz.prog 85 3 12 (.agg #[.int .u32 0, .int .i32 0, .int .u32 0]) := .of (by kernel_rfl)
theorem ti87 : TI Tryz.prog 87 1 16 (.nilIface) := .of (by kernel_rfl)
theorem ti89 : TI Tryz.prog 89 5 56 (.agg #[.int .u32 0, .int .i32 0, .int .u32 0, .nilIface, .slice none 0 0]) := .of (by kernel_rfl)
theorem ti96 : TI Tryz.prog 96 1 8 (.pointer none) := .of (by kernel_rfl)
theorem ti97 : TI Tryz.prog 97 1 24 (.slice none 0 0) := .of (by kernel_rfl)
theorem ti99 : TI Tryz.prog 99 5 88 (.agg #[.string ByteArray.empty, .string ByteArray.empty, .slice none 0 0, .pointer none, .slice none 0 0]) := .of (by kernel_rfl)
theorem ti102 : TI Tryz.prog 102 3 40 (.agg #[.slice none 0 0, .int .i64 0, .bool false]) := .of (by kernel_rfl)
theorem ti104 : TI Tryz.prog 104 5 72 (.agg #[.int .i64 0, .string ByteArray.empty, .string ByteArray.empty, .slice none 0 0, .bool false]) := .of (by kernel_rfl)
theorem ti109 : TI Tryz.prog 109 1 8 (.pointer none) := .of (by kernel_rfl)
theorem ti112 : TI Tryz.prog 112 2 32 (.agg #[.pointer none, .slice none 0 0]) := .of (by kernel_rfl)
theorem ti126 : TI Tryz.prog 126 256 256 (.agg #[.int .u8 0, .int .u8 0, .int .u8 0, .int .u8 0, .int .u8 0, .int .u8 0, .int .u8 0, .int .u8 0, .int .u8 0, .int .u8 0, .int .u8 0, .int .u8 0, .int .u8 0, .int .u8 0, .int .u8 0, .int .u8 0, .int .u8 0, .int .u8 0, .int .u8 0, .int .u8 0, .int .u8 0, .int .u8 0, .int .u8 0, .int .u8 0, .int .u8 0, .int .u8 0, .int .u8 0, .int .u8 0, .int .u8 0, .int .u8 0, .int .u8 0, .int .u8 0, .int .u8 0, .int .u8 0, .int .u8 0, .int .u8 0, .int .u8 0, .int .u8 0, .int .u8 0, .int .u8 0, .int .u8 0, .int .u8 0, .int .u8 0, .int .u8 0, .int .u8 0, .int .u8 0, .int .u8 0, .int .u8 0, .int .u8 0, .int .u8 0, .int .u8 0, .int .u8 0, .int .u8 0, .int .u8 0, .int .u8 0, .int .u8 0, .int .u8 0, .int .u8 0, .int .u8 0, .int .u8 0, .int .u8 0, .int .u8 0, .int .u8 0, .int .u8 0, .int .u8 0, .int .u8 0, .int .u8 0, .int .u8 0, .int .u8 0, .int .u8 0, .int .u8 0, .int .u8 0, .int .u8 0, .int .u8 0, .int .u8 0, .int .u8 0, .int .u8 0, .int .u8 0, .int .u8 0, .int .u8 0, .int .u8 0, .int .u8 0, .int .u8 0, .int .u8 0, .int .u8 0, .int .u8 0, .int .u8 0, .int .u8 0, .int .u8 0, .int .u8 0, .int .u8 0, .int .u8 0, .int .u8 0, .int .u8 0, .int .u8 0, .int .u8 0, .int .u8 0, .int .u8 0, .int .u8 0, .int .u8 0, .int .u8 0, .int .u8 0, .int .u8 0, .int .u8 0, .int .u8 0, .int .u8 0, .int .u8 0, .int .u8 0, .int .u8 0, .int .u8 0, .int .u8 0, .int .u8 0, .int .u8 0, .int .u8 0, .int .u8 0, .int .u8 0, .int .u8 0, .int .u8 0, .int .u8 0, .int .u8 0, .int .u8 0, .int .u8 0, .int .u8 0, .int .u8 0, .int .u8 0, .int .u8 0, .int .u8 0, .int .u8 0, .int .u8 0, .int .u8 0, .int .u8 0, .int .u8 0, .int .u8 0, .int .u8 0, .int .u8 0, .int .u8 0, .int .u8 0, .int .u8 0, .int .u8 0, .int .u8 0, .int .u8 0, .int .u8 0, .int .u8 0, .int .u8 0, .int .u8 0, .int .u8 0, .int .u8 0, .int .u8 0, .int .u8 0, .int .u8 0, .int .u8 0, .int .u8 0, .int .u8 0, .int .u8 0, .int .u8 0, .int .u8 0, .int .u8 0, .int .u8 0, .int .u8 0, .int .u8 0, .int .u8 0, .int .u8 0, .int .u8 0, .int .u8 0, .int .u8 0, .int .u8 0, .int .u8 0, .int .u8 0, .int .u8 0, .int .u8 0, .int .u8 0, .int .u8 0, .int .u8 0, .int .u8 0, .int .u8 0, .int .u8 0, .int .u8 0, .int .u8 0, .int .u8 0, .int .u8 0, .int .u8 0, .int .u8 0, .int .u8 0, .int .u8 0, .int .u8 0, .int .u8 0, .int .u8 0, .int .u8 0, .int .u8 0, .int .u8 0, .int .u8 0, .int .u8 0, .int .u8 0, .int .u8 0, .int .u8 0, .int .u8 0, .int .u8 0, .int .u8 0, .int .u8 0, .int .u8 0, .int .u8 0, .int .u8 0, .int .u8 0, .int .u8 0, .int .u8 0, .int .u8 0, .int .u8 0, .int .u8 0, .int .u8 0, .int .u8 0, .int .u8 0, .int .u8 0, .int .u8 0, .int .u8 0, .int .u8 0, .int .u8 0, .int .u8 0, .int .u8 0, .int .u8 0, .int .u8 0, .int .u8 0, .int .u8 0, .int .u8 0, .int .u8 0, .int .u8 0, .int .u8 0, .int .u8 0, .int .u8 0, .int .u8 0, .int .u8 0, .int .u8 0, .int .u8 0, .int .u8 0, .int .u8 0, .int .u8 0, .int .u8 0, .int .u8 0, .int .u8 0, .int .u8 0, .int .u8 0, .int .u8 0, .int .u8 0, .int .u8 0, .int .u8 0, .int .u8 0, .int .u8 0, .int .u8 0, .int .u8 0, .int .u8 0, .int .u8 0, .int .u8 0, .int .u8 0, .int .u8 0, .int .u8 0, .int .u8 0, .int .u8 0]) := .of (by kernel_rfl)
theorem ti144 : TI Tryz.prog 144 2 32 (.agg #[.slice none 0 0, .int .i64 0]) := .of (by kernel_rfl)
theorem ti178 : TI Tryz.prog 178 1 8 (.pointer none) := .of (by kernel_rfl)
theorem ti179 : TI Tryz.prog 179 1 24 (.slice none 0 0) := .of (by kernel_rfl)
theorem ti181 : TI Tryz.prog 181 5 72 (.agg #[.string ByteArray.empty, .int .i64 0, .string ByteArray.empty, .pointer none, .slice none 0 0]) := .of (by kernel_rfl)
theorem ti218 : TI Tryz.prog 218 1 24 (.slice none 0 0) := .of (by kernel_rfl)
theorem has7 : Has Tryz.prog 7 := ⟨_, Tryz.func7, rfl, by kernel_rfl⟩
theorem has8 : Has Tryz.prog 8 := ⟨_, Tryz.func8, rfl, by kernel_rfl⟩
theorem has10 : Has Tryz.prog 10 := ⟨_, Tryz.func10, rfl, by kernel_rfl⟩
theorem has11 : Has Tryz.prog 11 := ⟨_, Tryz.func11, rfl, by kernel_rfl⟩
theorem has12 : Has Tryz.prog 12 := ⟨_, Tryz.func12, rfl, by kernel_rfl⟩
theorem has13 : Has Tryz.prog 13 := ⟨_, Tryz.func13, rfl, by kernel_rfl⟩
theorem has14 : Has Tryz.prog 14 := ⟨_, Tryz.func14, rfl, by kernel_rfl⟩
theorem has15 : Has Tryz.prog 15 := ⟨_, Tryz.func15, rfl, by kernel_rfl⟩
theorem has16 : Has Tryz.prog 16 := ⟨_, Tryz.func16, rfl, by kernel_rfl⟩
theorem has17 : Has Tryz.prog 17 := ⟨_, Tryz.func17, rfl, by kernel_rfl⟩
theorem has18 : Has Tryz.prog 18 := ⟨_, Tryz.func18, rfl, by kernel_rfl⟩
theorem has19 : Has Tryz.prog 19 := ⟨_, Tryz.func19, rfl, by kernel_rfl⟩
theorem has20 : Has Tryz.prog 20 := ⟨_, Tryz.func20, rfl, by kernel_rfl⟩
theorem has21 : Has Tryz.prog 21 := ⟨_, Tryz.func21, rfl, by kernel_rfl⟩
theorem has22 : Has Tryz.prog 22 := ⟨_, Tryz.func22, rfl, by kernel_rfl⟩
theorem has23 : Has Tryz.prog 23 := ⟨_, Tryz.func23, rfl, by kernel_rfl⟩
theorem has24 : Has Tryz.prog 24 := ⟨_, Tryz.func24, rfl, by kernel_rfl⟩
theorem has25 : Has Tryz.prog 25 := ⟨_, Tryz.func25, rfl, by kernel_rfl⟩
theorem has26 : Has Tryz.prog 26 := ⟨_, Tryz.func26, rfl, by kernel_rfl⟩
theorem has27 : Has Tryz.prog 27 := ⟨_, Tryz.func27, rfl, by kernel_rfl⟩
theorem has28 : Has Tryz.prog 28 := ⟨_, Tryz.func28, rfl, by kernel_rfl⟩
theorem has29 : Has Tryz.prog 29 := ⟨_, Tryz.func29, rfl, by kernel_rfl⟩
theorem has30 : Has Tryz.prog 30 := ⟨_, Tryz.func30, rfl, by kernel_rfl⟩
theorem has31 : Has Tryz.prog 31 := ⟨_, Tryz.func31, rfl, by kernel_rfl⟩
theorem has32 : Has Tryz.prog 32 := ⟨_, Tryz.func32, rfl, by kernel_rfl⟩
theorem has33 : Has Tryz.prog 33 := ⟨_, Tryz.func33, rfl, by kernel_rfl⟩
theorem has34 : Has Tryz.prog 34 := ⟨_, Tryz.func34, rfl, by kernel_rfl⟩
theorem has35 : Has Tryz.prog 35 := ⟨_, Tryz.func35, rfl, by kernel_rfl⟩
theorem has36 : Has Tryz.prog 36 := ⟨_, Tryz.func36, rfl, by kernel_rfl⟩
theorem has37 : Has Tryz.prog 37 := ⟨_, Tryz.func37, rfl, by kernel_rfl⟩
theorem has38 : Has Tryz.prog 38 := ⟨_, Tryz.func38, rfl, by kernel_rfl⟩
theorem has39 : Has Tryz.prog 39 := ⟨_, Tryz.func39, rfl, by kernel_rfl⟩
theorem has40 : Has Tryz.prog 40 := ⟨_, Tryz.func40, rfl, by kernel_rfl⟩
theorem has41 : Has Tryz.prog 41 := ⟨_, Tryz.func41, rfl, by kernel_rfl⟩
theorem has42 : Has Tryz.prog 42 := ⟨_, Tryz.func42, rfl, by kernel_rfl⟩
theorem has43 : Has Tryz.prog 43 := ⟨_, Tryz.func43, rfl, by kernel_rfl⟩
theorem has44 : Has Tryz.prog 44 := ⟨_, Tryz.func44, rfl, by kernel_rfl⟩
theorem has45 : Has Tryz.prog 45 := ⟨_, Tryz.func45, rfl, by kernel_rfl⟩
theorem has46 : Has Tryz.prog 46 := ⟨_, Tryz.func46, rfl, by kernel_rfl⟩
theorem has47 : Has Tryz.prog 47 := ⟨_, Tryz.func47, rfl, by kernel_rfl⟩
theorem has48 : Has Tryz.prog 48 := ⟨_, Tryz.func48, rfl, by kernel_rfl⟩
theorem has49 : Has Tryz.prog 49 := ⟨_, Tryz.func49, rfl, by kernel_rfl⟩
theorem has50 : Has Tryz.prog 50 := ⟨_, Tryz.func50, rfl, by kernel_rfl⟩
theorem has51 : Has Tryz.prog 51 := ⟨_, Tryz.func51, rfl, by kernel_rfl⟩
theorem has52 : Has Tryz.prog 52 := ⟨_, Tryz.func52, rfl, by kernel_rfl⟩
theorem has55 : Has Tryz.prog 55 := ⟨_, Tryz.func55, rfl, by kernel_rfl⟩
theorem has56 : Has Tryz.prog 56 := ⟨_, Tryz.func56, rfl, by kernel_rfl⟩
theorem has57 : Has Tryz.prog 57 := ⟨_, Tryz.func57, rfl, by kernel_rfl⟩
theorem has59 : Has Tryz.prog 59 := ⟨_, Tryz.func59, rfl, by kernel_rfl⟩
theorem has60 : Has Tryz.prog 60 := ⟨_, Tryz.func60, rfl, by kernel_rfl⟩
theorem has61 : Has Tryz.prog 61 := ⟨_, Tryz.func61, rfl, by kernel_rfl⟩
theorem has62 : Has Tryz.prog 62 := ⟨_, Tryz.func62, rfl, by kernel_rfl⟩
theorem has63 : Has Tryz.prog 63 := ⟨_, Tryz.func63, rfl, by kernel_rfl⟩
theorem has65 : Has Tryz.prog 65 := ⟨_, Tryz.func65, rfl, by kernel_rfl⟩
theorem has67 : Has Tryz.prog 67 := ⟨_, Tryz.func67, rfl, by kernel_rfl⟩
theorem has68 : Has Tryz.prog 68 := ⟨_, Tryz.func68, rfl, by kernel_rfl⟩
theorem has69 : Has Tryz.prog 69 := ⟨_, Tryz.func69, rfl, by kernel_rfl⟩
theorem has71 : Has Tryz.prog 71 := ⟨_, Tryz.func71, rfl, by kernel_rfl⟩
theorem has72 : Has Tryz.prog 72 := ⟨_, Tryz.func72, rfl, by kernel_rfl⟩
theorem has73 : Has Tryz.prog 73 := ⟨_, Tryz.func73, rfl, by kernel_rfl⟩
theorem has74 : Has Tryz.prog 74 := ⟨_, Tryz.func74, rfl, by kernel_rfl⟩
theorem has75 : Has Tryz.prog 75 := ⟨_, Tryz.func75, rfl, by kernel_rfl⟩
theorem has76 : Has Tryz.prog 76 := ⟨_, Tryz.func76, rfl, by kernel_rfl⟩
theorem has77 : Has Tryz.prog 77 := ⟨_, Tryz.func77, rfl, by kernel_rfl⟩
theorem has78 : Has Tryz.prog 78 := ⟨_, Tryz.func78, rfl, by kernel_rfl⟩
theorem has79 : Has Tryz.prog 79 := ⟨_, Tryz.func79, rfl, by kernel_rfl⟩
theorem has80 : Has Tryz.prog 80 := ⟨_, Tryz.func80, rfl, by kernel_rfl⟩
theorem has81 : Has Tryz.prog 81 := ⟨_, Tryz.func81, rfl, by kernel_rfl⟩
theorem has82 : Has Tryz.prog 82 := ⟨_, Tryz.func82, rfl, by kernel_rfl⟩
theorem has83 : Has Tryz.prog 83 := ⟨_, Tryz.func83, rfl, by kernel_rfl⟩
theorem has84 : Has Tryz.prog 84 := ⟨_, Tryz.func84, rfl, by kernel_rfl⟩
theorem has85 : Has Tryz.prog 85 := ⟨_, Tryz.func85, rfl, by kernel_rfl⟩
theorem has86 : Has Tryz.prog 86 := ⟨_, Tryz.func86, rfl, by kernel_rfl⟩
theorem has87 : Has Tryz.prog 87 := ⟨_, Tryz.func87, rfl, by kernel_rfl⟩
theorem has88 : Has Tryz.prog 88 := ⟨_, Tryz.func88, rfl, by kernel_rfl⟩
theorem has89 : Has Tryz.prog 89 := ⟨_, Tryz.func89, rfl, by kernel_rfl⟩
theorem has90 : Has Tryz.prog 90 := ⟨_, Tryz.func90, rfl, by kernel_rfl⟩
theorem has91 : Has Tryz.prog 91 := ⟨_, Tryz.func91, rfl, by kernel_rfl⟩
theorem has92 : Has Tryz.prog 92 := ⟨_, Tryz.func92, rfl, by kernel_rfl⟩
theorem has94 : Has Tryz.prog 94 := ⟨_, Tryz.func94, rfl, by kernel_rfl⟩
theorem has95 : Has Tryz.prog 95 := ⟨_, Tryz.func95, rfl, by kernel_rfl⟩
theorem has96 : Has Tryz.prog 96 := ⟨_, Tryz.func96, rfl, by kernel_rfl⟩
theorem has98 : Has Tryz.prog 98 := ⟨_, Tryz.func98, rfl, by kernel_rfl⟩
theorem has99 : Has Tryz.prog 99 := ⟨_, Tryz.func99, rfl, by kernel_rfl⟩
theorem has101 : Has Tryz.prog 101 := ⟨_, Tryz.func101, rfl, by kernel_rfl⟩
theorem has102 : Has Tryz.prog 102 := ⟨_, Tryz.func102, rfl, by kernel_rfl⟩
theorem has103 : Has Tryz.prog 103 := ⟨_, Tryz.func103, rfl, by kernel_rfl⟩
theorem has104 : Has Tryz.prog 104 := ⟨_, Tryz.func104, rfl, by kernel_rfl⟩
theorem has105 : Has Tryz.prog 105 := ⟨_, Tryz.func105, rfl, by kernel_rfl⟩
theorem has107 : Has Tryz.prog 107 := ⟨_, Tryz.func107, rfl, by kernel_rfl⟩
theorem has108 : Has Tryz.prog 108 := ⟨_, Tryz.func108, rfl, by kernel_rfl⟩
theorem has109 : Has Tryz.prog 109 := ⟨_, Tryz.func109, rfl, by kernel_rfl⟩
theorem has111 : Has Tryz.prog 111 := ⟨_, Tryz.func111, rfl, by kernel_rfl⟩
theorem has113 : Has Tryz.prog 113 := ⟨_, Tryz.func113, rfl, by kernel_rfl⟩
theorem has120 : Has Tryz.prog 120 := ⟨_, Tryz.func120, rfl, by kernel_rfl⟩
theorem has164 : Has Tryz.prog 164 := ⟨_, Tryz.func164, rfl, by kernel_rfl⟩
theorem has165 : Has Tryz.prog 165 := ⟨_, Tryz.func165, rfl, by kernel_rfl⟩
theorem has166 : Has Tryz.prog 166 := ⟨_, Tryz.func166, rfl, by kernel_rfl⟩
theorem has167 : Has Tryz.prog 167 := ⟨_, Tryz.func167, rfl, by kernel_rfl⟩
theorem has177 : Has Tryz.prog 177 := ⟨_, Tryz.func177, rfl, by kernel_rfl⟩
end
section
open Go.RowKit Go.Sl
structure zab where
  Name : ByteArray
  Value : ByteArray
def zbv : Ty zab where
  k := 2
  R f r x := r = [.string x.Name, .string x.Value]
  mono := by
    rintro f f' r x h hf
    obtain rfl := h
    exact rfl
  one := by
    rintro f r x h
    obtain rfl := h
    exact AllC.row ⟨rfl, rfl, trivial⟩ rfl
structure zae where
  Kind : Int
  Name : ByteArray
  Text : ByteArray
  Attrs : (List zab)
  Parent : Int
  First : Int
  Last : Int
  Prev : Int
  Next : Int
def zcr : Ty zae where
  k := 9
  R f r x := ∃ v0, r = [.int .i64 x.Kind, .string x.Name, .string x.Text, v0, .int .i64 x.Parent, .int .i64 x.First, .int .i64 x.Last, .int .i64 x.Prev, .int .i64 x.Next] ∧ RS zbv f v0 x.Attrs
  mono := by
    rintro f f' r x h hf
    obtain ⟨v0, rfl, hv0⟩ := h
    exact ⟨v0, rfl, hv0.le hf⟩
  one := by
    rintro f r x h
    obtain ⟨v0, rfl, hv0⟩ := h
    exact AllC.row ⟨rfl, rfl, rfl, hv0.one, rfl, rfl, rfl, rfl, rfl, trivial⟩ rfl
structure zaa where
  Nodes : (List zae)
def zcz : Ty zaa where
  k := 1
  R f r x := ∃ v0, r = [v0] ∧ RS zcr f v0 x.Nodes
  mono := by
    rintro f f' r x h hf
    obtain ⟨v0, rfl, hv0⟩ := h
    exact ⟨v0, rfl, hv0.le hf⟩
  one := by
    rintro f r x h
    obtain ⟨v0, rfl, hv0⟩ := h
    exact AllC.row ⟨hv0.one, trivial⟩ rfl
structure za8 where
  Name : ByteArray
  Text : ByteArray
  Attrs : (List zab)
  Kids : (List za8)
inductive R_dom_Part (f : Fz) : List Value → za8 → Prop
  | mk {v0 v1 : Value} {rowsv1 : List (List Value)} {x : za8} : RS zbv f v0 x.Attrs → Rd f [] v1 4 rowsv1 → rowsv1.length = x.Kids.length → (∀ (i : Nat) r y, rowsv1[i]? = some r → x.Kids[i]? = some y → R_dom_Part f r y) → R_dom_Part f [.string x.Name, .string x.Text, v0, v1] x
theorem R_dom_Part.le {f f' : Fz} {r : List Value} {x : za8} (h : R_dom_Part f r x) (hf : Fz.le f f') : R_dom_Part f' r x := by
  induction h with
  | mk hv0 hrv1 hlv1 hiv1 ihv1 => exact .mk (hv0.le hf) (hrv1.le hf) hlv1 (fun i r y h1 h2 => ihv1 i r y h1 h2)
def zcy : Ty za8 where
  k := 4
  R := R_dom_Part
  mono := R_dom_Part.le
  one := by
    intro f r x h
    cases h with
    | mk hv0 hrv1 hlv1 hiv1 => exact AllC.row ⟨rfl, rfl, hv0.one, hrv1.one, trivial⟩ rfl
theorem R_dom_Part.ex {f : Fz} {r : List Value} {x : za8} (h : zcy.R f r x) : ∃ v0 v1, r = [.string x.Name, .string x.Text, v0, v1] ∧ RS zbv f v0 x.Attrs ∧ RS zcy f v1 x.Kids := by
  cases h with
  | mk hv0 hrv1 hlv1 hiv1 => exact ⟨_, _, rfl, hv0, ⟨_, hrv1, RW.ofGet hlv1 hiv1⟩⟩
theorem R_dom_Part.of {f : Fz} {v0 v1 : Value} {x : za8} (hv0 : RS zbv f v0 x.Attrs) (hv1 : RS zcy f v1 x.Kids) : zcy.R f [.string x.Name, .string x.Text, v0, v1] x := by
  obtain ⟨rowsv1, hrv1, hwv1⟩ := hv1
  exact R_dom_Part.mk hv0 hrv1 hwv1.len (fun i r y h1 h2 => hwv1.at h1 h2)
structure za6 where
  Kind : Int
  Name : ByteArray
  Text : ByteArray
  Attrs : (List zab)
  Closed : Bool
def zb1 : Ty za6 where
  k := 5
  R f r x := ∃ v0, r = [.int .i64 x.Kind, .string x.Name, .string x.Text, v0, .bool x.Closed] ∧ RS zbv f v0 x.Attrs
  mono := by
    rintro f f' r x h hf
    obtain ⟨v0, rfl, hv0⟩ := h
    exact ⟨v0, rfl, hv0.le hf⟩
  one := by
    rintro f r x h
    obtain ⟨v0, rfl, hv0⟩ := h
    exact AllC.row ⟨rfl, rfl, rfl, hv0.one, rfl, trivial⟩ rfl
structure zaf where
  l : (List Int)
  at_ : Int
structure zag where
  c : zaf
  out : (List za6)
structure za4 where
  name : ByteArray
  text : ByteArray
  attrs : (List zab)
  above : Int
  kids : (List Int)
def nsh : NSh za4 where
  R f ab b x l := ∃ (v0 : Value) (v1 : Value) (vk : Value) (rk : List (List Value)), l = [.blk b (.cells #[.string x.name, .string x.text, v0, v1, vk] 99 (0,0)), .row vk 96 1 rk] ∧ RS zbv f v0 x.attrs ∧ RP ab v1 x.above ∧ RW (tP ab) f rk x.kids
  mono := by
    rintro f f' ab ab' b x l ⟨v0, v1, vk, rk, rfl, hv0, hv1, hk⟩ hf hb
    exact ⟨_, _, _, _, rfl, hv0.le hf, hv1.grow hb,(hk.grow hb).anyP⟩
  key := by
    rintro f ab b x l ⟨v0, v1, vk, rk, rfl, _, _, _⟩
    exact ⟨_, _, _, rfl⟩
structure za7 where
  open_ : (List Int)
  count : Int
  deep : Bool
end
section
open Go.RowKit Go.Sl Go.ChangeShapes Go.WideShapes Go.ChangeAt
theorem ownk : ownKnob Tryz.prog.godebug = none := by kernel_rfl
theorem laid : laidOutB Tryz.prog = true := by kernel_rfl
end
section
open Go.RowKit Go.Sl
set_option maxRecDepth 20000
def ze8 (_n : Nat) (p0 : ByteArray) (p1 : Int) : Option Int := some (Go.Lib.indexByte p0.data.toList p1.toNat.toUInt8)
theorem ztx (n : Nat) {w : World} {p0 : ByteArray} {p1 : Int} {res : Int} (hm : ze8 n p0 p1 = some res) : (callFunc 119 #[.string p0, .int .u8 p1]).run Tryz.prog w = .ok (.value (.int .i64 res)) w := by
 obtain rfl := Option.some.inj hm
 rw [Go.run_callFunc_extern (e := Extern.BytealgIndexByte.indexByte) Tryz.func119 rfl rfl rfl rfl, Go.Lib.run_indexByteString]
 rfl
theorem zlb (n : Nat) {f : Fz} {p0 : ByteArray} {p1 : Int} {res : Int} (hm : ze8 n p0 p1 = some res) : Gives Tryz.prog 102 [.string p0, .int .u8 p1] f (.int .i64 res) := by
 intro w0 L w hC
 refine enter Tryz.func102 rfl Tryz.ntmps102 (by simp) hC fun a hs => ?_
 have hle := Fz.le.refl f
 refine zai fun K1 hK1 => ?_
 refine za2 ?_
 refine sy hs (za9 rfl) fun _ _ hs => ?_
 refine za0 ?_
 refine hK1 _ _ ?_; clear hK1
 refine zai fun K2 hK2 => ?_
 refine za2 ?_
 refine sy hs (za3 rfl) fun _ _ hs => ?_
 refine sy hs (za3 rfl) fun _ _ hs => ?_
 refine sy hs (zu8 (gn := 119) rfl rfl (fun w => ztx n hm)) fun _ _ hs => ?_
 refine sy hs (za9 rfl) fun _ _ hs => ?_
 refine za0 ?_
 refine hK2 _ _ ?_; clear hK2
 refine zax ?_
 refine RtV1 hs rfl (rv_t hs rfl) ?_
 exact ⟨rfl,(hs.weak hle).cw⟩
theorem zih (n : Nat) {f : Fz} {p0 : ByteArray} {p1 : Int} {res : Int} (hm : ze8 n p0 p1 = some res) : Gives Tryz.prog 83 [.string p0, .int .u8 p1] f (.int .i64 res) := by
 intro w0 L w hC
 refine enter Tryz.func83 rfl Tryz.ntmps83 (by simp) hC fun a hs => ?_
 have hle := Fz.le.refl f
 refine zai fun K1 hK1 => ?_
 refine za2 ?_
 refine sy hs (za9 rfl) fun _ _ hs => ?_
 refine za0 ?_
 refine hK1 _ _ ?_; clear hK1
 refine zai fun K2 hK2 => ?_
 refine za2 ?_
 refine sy hs (za3 rfl) fun _ _ hs => ?_
 refine sy hs (za3 rfl) fun _ _ hs => ?_
 refine sy hs (zbi rfl has102 rfl (zlb n hm)) fun _ _ hs => ?_
 refine sy hs (za9 rfl) fun _ _ hs => ?_
 refine za0 ?_
 refine hK2 _ _ ?_; clear hK2
 refine zax ?_
 refine RtV1 hs rfl (rv_t hs rfl) ?_
 exact ⟨rfl,(hs.weak hle).cw⟩
theorem zij {f : Fz} {pb : Nat} {u : Bool} {v : Value} : Does Tryz.prog 42 [pq pb 0] f [.blk pb (.cells #[baddr pb u, v] 59 (0,0))] (fun r _ L' => L' = [.blk pb (.cells #[baddr pb true, v] 59 (0,0))] ∧ r = .tuple #[]) := by
 intro w0 L w hC
 replace hC : Cw w0 f (.blk pb (.cells #[baddr pb u, v] 59 (0,0)) :: L) w := hC
 refine enter Tryz.func42 rfl Tryz.ntmps42 (by simp) hC fun a hs => ?_
 have hle := Fz.le.refl f
 refine zaq (fun a w => St 20 w0 f (.blk pb (.cells #[baddr pb true, v] 59 (0,0)) :: L) [] a w) ?_ ?_
 ·clear hs
  intro a w hs
  refine RtV0 hs rfl ?_
  exact ⟨_, f,[.blk pb (.cells #[baddr pb true, v] 59 (0,0))], rfl, hle, hs.cw, rfl, rfl⟩
 ·refine zai fun K2 hK2 => ?_
  refine za2 ?_
  refine sy hs (za3 rfl) fun _ _ hs => ?_
  refine sy hs (za5 rfl) fun _ _ hs => ?_
  refine sy (v := pq pb 0) hs (za1 rfl (FO.of (off := 0) U59 rfl rfl ti57 (by decide))) fun _ _ hs => ?_
  refine sy (v := baddr pb u) hs (y_ld rfl U57 rfl (Cell.blk (.head _) rfl)) fun _ _ hs => ?_
  cases u with
  | false =>
   refine sy (v := .bool true) hs (y_pnn rfl rfl U57) fun _ _ hs => ?_
   refine za0 ?_
   refine hK2 _ _ ?_; clear hK2
   refine zah hs rfl (fun _ => ?_) (fun hg => nomatch hg)
   refine za2 ?_
   refine sy hs (za3 rfl) fun _ _ hs => ?_
   refine sy hs (za3 rfl) fun _ _ hs => ?_
   refine sy hs (ztg rfl U57 U132 ti59 (by decide) (.head _) (by simp)) fun _ _ hs => ?_
   refine sy hs (zu8 (gn := 66) (v := pq pb 0) rfl rfl (fun w => by rw [Go.run_callFunc_extern (e := Extern.AbiNoEscape.same) Tryz.func66 rfl rfl rfl rfl]; rfl)) fun _ _ hs => ?_
   refine sy hs (zqt rfl U132 U57 ti59 (.head _) (by kernel_rfl)) fun _ _ hs => ?_
   refine sy hs (za5 rfl) fun _ _ hs => ?_
   refine sy (v := pq pb 0) hs (za1 rfl (FO.of (off := 0) U59 rfl rfl ti57 (by decide))) fun _ _ hs => ?_
   refine sstore 0 hs rfl rfl rfl ti57 rfl fun _ _ hs => ?_
   refine za0 ?_
   exact hs.sub trivial
  | true =>
   refine sy (v := .bool false) hs (y_pnil rfl rfl U57) fun _ _ hs => ?_
   refine za0 ?_
   refine hK2 _ _ ?_; clear hK2
   refine zah hs rfl (fun hg => nomatch hg) (fun _ => ?_)
   refine zai fun K3 hK3 => ?_
   refine za2 ?_
   refine sy hs (za3 rfl) fun _ _ hs => ?_
   refine sy hs (za5 rfl) fun _ _ hs => ?_
   refine sy (v := pq pb 0) hs (za1 rfl (FO.of (off := 0) U59 rfl rfl ti57 (by decide))) fun _ _ hs => ?_
   refine sy (v := pq pb 0) hs (y_ld rfl U57 rfl (Cell.blk (.head _) rfl)) fun _ _ hs => ?_
   refine sy hs (za3 rfl) fun _ _ hs => ?_
   refine sy (v := .bool false) hs (y_pselfN rfl rfl U57 ti59) fun _ _ hs => ?_
   refine za0 ?_
   refine hK3 _ _ ?_; clear hK3
   refine zah hs rfl (fun hg => nomatch hg) (fun _ => ?_)
   refine zaj ?_
   exact hs.sub trivial
def zb4 (_n : Nat) (p0 : Builder) (p1 : ByteArray) : Option (Int × Builder) := (appM 1 p0.buf (bytesIn p1)).bind fun y => some ((p1.size : Int), { addr := true, buf := y })
theorem zc6 (n : Nat) {f : Fz} {p0 : Builder} {pb : Nat} {v : Value} {vr : List (List Value)} {p1 : ByteArray} {res : Int × Builder} (hv : RW (tInt .u8) f vr p0.buf) (hm : zb4 n p0 p1 = some res) :
    Does Tryz.prog 27 [pq pb 0, .string p1] f [.blk pb (.cells #[baddr pb p0.addr, v] 59 (0,0)), .row v 5 1 vr] (fun r f' L' => ∃ (v' : Value) (vr' : List (List Value)), L' = [.blk pb (.cells #[baddr pb res.2.addr, v'] 59 (0,0)), .row v' 5 1 vr'] ∧ r = .tuple #[.int .i64 res.1, .nilIface] ∧ RW (tInt .u8) f' vr' res.2.buf) := by
 unfold zb4 at hm
 intro w0 L w hC
 replace hC : Cw w0 f (.blk pb (.cells #[baddr pb p0.addr, v] 59 (0,0)) :: .row v 5 1 vr :: L) w := hC
 refine enter Tryz.func27 rfl Tryz.ntmps27 (by simp) hC fun a hs => ?_
 have hle := Fz.le.refl f
 refine zai fun K1 hK1 => ?_
 refine za2 ?_
 refine sy hs (za9 rfl) fun _ _ hs => ?_
 refine sy hs (za9 rfl) fun _ _ hs => ?_
 refine za0 ?_
 refine hK1 _ _ ?_; clear hK1
 refine zai fun K2 hK2 => ?_
 refine za2 ?_
 refine sy hs (za3 rfl) fun _ _ hs => ?_
 refine zbb (Lr := [.blk pb (.cells #[baddr pb p0.addr, v] 59 (0,0))]) (Lf := .row v 5 1 vr :: L) hs rfl has42 rfl rfl (zij) (.free rfl) (by decide) ?_; clear hs; (try clear a w)
 rintro _ f1 _ a w hf1 ⟨rfl, rfl⟩ hs
 replace hv := hv.le hf1
 replace hle := hle.trans hf1
 refine za0 ?_
 refine hK2 _ _ ?_; clear hK2
 refine zai fun K3 hK3 => ?_
 refine za2 ?_
 refine sy hs (za3 rfl) fun _ _ hs => ?_
 refine sy hs (za3 rfl) fun _ _ hs => ?_
 refine sy hs (za5 rfl) fun _ _ hs => ?_
 refine sy (v := pq pb 1) hs (za1 rfl (FO.of (off := 1) U59 rfl rfl ti36 (by decide))) fun _ _ hs => ?_
 refine sy (v := v) hs (y_ld rfl U36 rfl (Cell.blk (.head _) rfl)) fun _ _ hs => ?_
 refine sy hs (za3 rfl) fun _ _ hs => ?_
 obtain ⟨x1, hx1, hm⟩ := ob hm
 refine zu2 1 hx1 hv hs rfl rfl rfl U36 U9 ti5 rfl fun v1 rw1 _ _ hv1 hs => ?_
 refine sy hs (za5 rfl) fun _ _ hs => ?_
 refine sy (v := pq pb 1) hs (za1 rfl (FO.of (off := 1) U59 rfl rfl ti36 (by decide))) fun _ _ hs => ?_
 refine sstore 0 hs rfl rfl rfl ti36 (hs.one (i := 1) rfl) fun _ _ hs => ?_
 refine za0 ?_
 refine hK3 _ _ ?_; clear hK3
 refine zai fun K4 hK4 => ?_
 refine za2 ?_
 refine sy hs (za3 rfl) fun _ _ hs => ?_
 refine sy hs (zg2 rfl U9) fun _ _ hs => ?_
 refine sy hs (za9 rfl) fun _ _ hs => ?_
 refine sy hs (za9 rfl) fun _ _ hs => ?_
 refine za0 ?_
 refine hK4 _ _ ?_; clear hK4
 refine zax ?_
 obtain rfl := Option.some.inj hm
 refine RtV2 hs rfl (rv_t hs rfl) (rv_t hs rfl) ?_
 exact ⟨_, f1,[.blk pb (.cells #[baddr pb true, v1] 59 (0,0)), .row v1 5 1 rw1], rfl, hle, hs.cw, v1, rw1, rfl, rfl, hv1⟩
def zfa (_n : Nat) (p0 : Builder) (p1 : Int) : Option Builder := (appM 1 p0.buf [p1]).bind fun y => some { addr := true, buf := y }
theorem zl8 (n : Nat) {f : Fz} {p0 : Builder} {pb : Nat} {v : Value} {vr : List (List Value)} {p1 : Int} {res : Builder} (hv : RW (tInt .u8) f vr p0.buf) (hm : zfa n p0 p1 = some res) :
    Does Tryz.prog 85 [pq pb 0, .int .u8 p1] f [.blk pb (.cells #[baddr pb p0.addr, v] 59 (0,0)), .row v 5 1 vr] (fun r f' L' => ∃ (v' : Value) (vr' : List (List Value)), L' = [.blk pb (.cells #[baddr pb res.addr, v'] 59 (0,0)), .row v' 5 1 vr'] ∧ r = .nilIface ∧ RW (tInt .u8) f' vr' res.buf) := by
 unfold zfa at hm
 intro w0 L w hC
 replace hC : Cw w0 f (.blk pb (.cells #[baddr pb p0.addr, v] 59 (0,0)) :: .row v 5 1 vr :: L) w := hC
 refine enter Tryz.func85 rfl Tryz.ntmps85 (by simp) hC fun a hs => ?_
 have hle := Fz.le.refl f
 refine zai fun K1 hK1 => ?_
 refine za2 ?_
 refine sy hs (za9 rfl) fun _ _ hs => ?_
 refine za0 ?_
 refine hK1 _ _ ?_; clear hK1
 refine zai fun K2 hK2 => ?_
 refine za2 ?_
 refine sy hs (za3 rfl) fun _ _ hs => ?_
 refine zbb (Lr := [.blk pb (.cells #[baddr pb p0.addr, v] 59 (0,0))]) (Lf := .row v 5 1 vr :: L) hs rfl has42 rfl rfl (zij) (.free rfl) (by decide) ?_; clear hs; (try clear a w)
 rintro _ f1 _ a w hf1 ⟨rfl, rfl⟩ hs
 replace hv := hv.le hf1
 replace hle := hle.trans hf1
 refine za0 ?_
 refine hK2 _ _ ?_; clear hK2
 refine zai fun K3 hK3 => ?_
 refine za2 ?_
 refine sy hs (za3 rfl) fun _ _ hs => ?_
 refine sy hs (za3 rfl) fun _ _ hs => ?_
 refine sy hs (za5 rfl) fun _ _ hs => ?_
 refine sy (v := pq pb 1) hs (za1 rfl (FO.of (off := 1) U59 rfl rfl ti36 (by decide))) fun _ _ hs => ?_
 refine sy (v := v) hs (y_ld rfl U36 rfl (Cell.blk (.head _) rfl)) fun _ _ hs => ?_
 refine sy hs (za3 rfl) fun _ _ hs => ?_
 refine zg1 hs rfl U36 ti5 rfl rfl fun v2 _ _ hs => ?_
 have hv2 : RW (tInt .u8) f1 [[.int .u8 p1]] [p1] := RW.single rfl
 generalize ([[.int .u8 p1]] : List (List Value)) = rw2 at hs hv2
 obtain ⟨x1, hx1, hm⟩ := ob hm
 obtain ⟨hb1, he1⟩ := zcb hx1
 have hv1 := hv.append hv2; rw [he1] at hv1
 refine zc9 (i := 2) hs rfl rfl rfl (Rd.st hs (.head _)) U36 ti5 (by decide) (by rw [RW.len hv, RW.len hv2]; exact hb1) (.free rfl) (by decide) fun v1 _ _ hs => ?_
 generalize vr ++ rw2 = rw1 at hs hv1
 replace hs := hs.erase 0
 refine sy hs (za5 rfl) fun _ _ hs => ?_
 refine sy (v := pq pb 1) hs (za1 rfl (FO.of (off := 1) U59 rfl rfl ti36 (by decide))) fun _ _ hs => ?_
 refine sstore 0 hs rfl rfl rfl ti36 (hs.one (i := 1) rfl) fun _ _ hs => ?_
 refine za0 ?_
 refine hK3 _ _ ?_; clear hK3
 refine zai fun K4 hK4 => ?_
 refine za2 ?_
 refine sy hs (za9 rfl) fun _ _ hs => ?_
 refine za0 ?_
 refine hK4 _ _ ?_; clear hK4
 refine zax ?_
 obtain rfl := Option.some.inj hm
 refine RtV1 hs rfl (rv_t hs rfl) ?_
 exact ⟨_, f1,[.blk pb (.cells #[baddr pb true, v1] 59 (0,0)), .row v1 5 1 rw1], rfl, hle, hs.cw, v1, rw1, rfl, rfl, hv1⟩
theorem zjt (_n : Nat) {f : Fz} {p0 : Builder} {pb : Nat} {v : Value} {vr : List (List Value)} (hv : RW (tInt .u8) f vr p0.buf) :
    Does Tryz.prog 28 [pq pb 0] f [.blk pb (.cells #[baddr pb p0.addr, v] 59 (0,0)), .row v 5 1 vr] (fun r _ L' => L' = [] ∧ r = .string (bytesOf p0.buf)) := by
 intro w0 L w hC
 replace hC : Cw w0 f (.blk pb (.cells #[baddr pb p0.addr, v] 59 (0,0)) :: .row v 5 1 vr :: L) w := hC
 refine enter Tryz.func28 rfl Tryz.ntmps28 (by simp) hC fun a hs => ?_
 have hle := Fz.le.refl f
 refine zai fun K1 hK1 => ?_
 refine za2 ?_
 refine sy hs (za9 rfl) fun _ _ hs => ?_
 refine za0 ?_
 refine hK1 _ _ ?_; clear hK1
 refine zai fun K2 hK2 => ?_
 have hsD := hs.subL (L' := .blk pb (.cells #[baddr pb p0.addr, v] 59 (0,0)) :: .row v 5 1 vr :: []) (.cons_cons _ (.cons_cons _ (List.nil_sublist _)))
 refine zj2 hs (.blk pb (.cells #[baddr pb p0.addr, v] 59 (0,0)) :: .row v 5 1 vr :: []) [10,11] (.look 0 (.look 1 (.look 2 (.look 3 (.look 5 (.look 6 (.look 7 (.look 8 (.look 9 (.any [4] (fun _ => .any [10] (fun _ => .any [11] (fun _ => .done))))))))))))) mixed (by kernel_rfl) fun _ he => ?_
 refine uy 0 (v := pq pb 0) he rfl (za3 rfl) fun _ he => ?_
 refine uy 1 he rfl (za5 rfl) fun _ he => ?_
 refine uy 2 (v := pq pb 1) he rfl (za1 rfl (FO.of (off := 1) U59 rfl rfl ti36 (by decide))) fun _ he => ?_
 refine uy 3 (v := v) he rfl (y_ld rfl U36 rfl (Cell.blk (.head _) rfl)) fun _ he => ?_
 refine uy 5 (v := pq pb 0) he rfl (za3 rfl) fun _ he => ?_
 refine uy 6 he rfl (za5 rfl) fun _ he => ?_
 refine uy 7 (v := pq pb 1) he rfl (za1 rfl (FO.of (off := 1) U59 rfl rfl ti36 (by decide))) fun _ he => ?_
 refine uy 8 (v := v) he rfl (y_ld rfl U36 rfl (Cell.blk (.head _) rfl)) fun _ he => ?_
 refine uy 9 he rfl (zc3 (Rd.st hsD (.tail _ (.head _))) hv rfl U36) fun _ he => ?_
 refine zeh he rfl ?_; clear he; (try clear a); intro a w hs
 refine RL_usd (i := 1) hs rfl rfl Tryz.underlying95 fun p L1 _ _ hp hs => ?_
 refine uon hs ?_ (Fz.le.refl _) (.trans (.cons_cons _ (.cons_cons _ (List.nil_sublist _))) (List.sublist_append_right L1 _)); clear hs; (try clear a w); intro a he
 refine zeh he rfl ?_; clear he; (try clear a); intro a w hs
 have hi : (L1 ++ (.blk pb (.cells #[baddr pb p0.addr, v] 59 (0,0)) :: .row v 5 1 vr :: L))[L1.length + 1]? = some (.row v 5 1 vr) := by
  rw [List.getElem?_append_right (by omega)]; simp
 refine RL_ust (p := p) hs hi hv rfl rfl hp Tryz.underlying95 (by kernel_rfl) fun _ _ hs => ?_
 refine uend hs fun _ he => ?_
 refine zeh he rfl ?_; clear he; (try clear a); intro a w hs
 refine sy hs (za9 rfl) fun _ _ hs => ?_
 refine uend hs fun _ he => ?_
 refine zmg he ?_; clear he; (try clear a); intro w hs; try clear hsD
 refine hK2 _ _ ?_; clear hK2
 refine zax ?_
 refine RtV1 hs rfl (rv_t hs rfl) ?_
 refine ⟨_, f,[], rfl, hle, hs.cw.sub ?_, rfl, rfl⟩
 have e1 : (L1 ++ (.blk pb (.cells #[baddr pb p0.addr, v] 59 (0,0)) :: .row v 5 1 vr :: L)).eraseIdx (L1.length + 1) = L1 ++ (.blk pb (.cells #[baddr pb p0.addr, v] 59 (0,0)) :: L) := by
  rw [List.eraseIdx_append_of_length_le (by omega)]; simp
 rw [e1]
 exact (List.sublist_append_of_sublist_right (.cons _ (.refl _)))
end
end Go.Proofs.YtpfdbeafdjnbnaaGreatDoor
