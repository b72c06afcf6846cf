/-
  What the machine's tables hold: types and functions of this program (written by tables.py).
-/
import Derived.Test.YtibakcohkdfnoaaDoorAmIr9
import Derived.Test.YtibakcohkdfnoaaDoorSeat
namespace Go.Proofs.YtibakcohkdfnoaaDoor
open Go.Am
@[simp] theorem cfg_ext (f : FuncId) : cfg.ext f = exts f := rfl
@[simp] theorem cfg_ov (f : FuncId) : cfg.ov f = ovs f := rfl
@[simp] theorem cfg_ovb (f : FuncId) : cfg.ovb f = none := rfl
@[simp] theorem cfg_own (f : FuncId) : cfg.own f = owns f := rfl
attribute [simp] exts ovs owns
-- type 0 left out
-- type 1 left out
@[simp] theorem ti2 : cfg.ti 2 = some { desc := .int .i64, size := 1, bytes := 8, zero := some [.int .i64 0], agg := false, eq := true, fields := [] } := by kernel_rfl
@[simp] theorem ti3 : cfg.ti 3 = some { desc := .int .i64, size := 1, bytes := 8, zero := some [.int .i64 0], agg := false, eq := true, fields := [] } := by kernel_rfl
@[simp] theorem ti4 : cfg.ti 4 = some { desc := .bool, size := 1, bytes := 1, zero := some [.bool false], agg := false, eq := true, fields := [] } := by kernel_rfl
@[simp] theorem ti5 : cfg.ti 5 = some { desc := .int .u8, size := 1, bytes := 1, zero := some [.int .u8 0], agg := false, eq := true, fields := [] } := by kernel_rfl
@[simp] theorem ti6 : cfg.ti 6 = some { desc := .int .u8, size := 1, bytes := 1, zero := some [.int .u8 0], agg := false, eq := true, fields := [] } := by kernel_rfl
@[simp] theorem ti7 : cfg.ti 7 = some { desc := .struct (fieldsAt Tryd.prog 7), size := 4, bytes := 24, zero := some [.int .i64 0, .int .i64 0, .bool false, .int .u8 0], agg := true, eq := true, fields := [(2, 0, 1), (3, 1, 1), (4, 2, 1), (6, 3, 1)] } := by kernel_rfl
@[simp] theorem ti8 : cfg.ti 8 = some { desc := .struct (fieldsAt Tryd.prog 8), size := 4, bytes := 24, zero := some [.int .i64 0, .int .i64 0, .bool false, .int .u8 0], agg := true, eq := true, fields := [(2, 0, 1), (3, 1, 1), (4, 2, 1), (6, 3, 1)] } := by kernel_rfl
@[simp] theorem ti9 : cfg.ti 9 = some { desc := .string, size := 1, bytes := 16, zero := some [.str []], agg := false, eq := true, fields := [] } := by kernel_rfl
@[simp] theorem ti10 : cfg.ti 10 = some { desc := .string, size := 1, bytes := 16, zero := some [.str []], agg := false, eq := true, fields := [] } := by kernel_rfl
@[simp] theorem ti11 : cfg.ti 11 = some { desc := .string, size := 1, bytes := 16, zero := some [.str []], agg := false, eq := true, fields := [] } := by kernel_rfl
@[simp] theorem ti12 : cfg.ti 12 = some { desc := .int .u64, size := 1, bytes := 8, zero := some [.int .u64 0], agg := false, eq := true, fields := [] } := by kernel_rfl
@[simp] theorem ti13 : cfg.ti 13 = some { desc := .struct (fieldsAt Tryd.prog 13), size := 2, bytes := 24, zero := some [.str [], .int .u64 0], agg := true, eq := false, fields := [(9, 0, 1), (12, 1, 1)] } := by kernel_rfl
@[simp] theorem ti14 : cfg.ti 14 = some { desc := .struct (fieldsAt Tryd.prog 14), size := 2, bytes := 24, zero := some [.str [], .int .u64 0], agg := true, eq := false, fields := [(9, 0, 1), (12, 1, 1)] } := by kernel_rfl
@[simp] theorem ti15 : cfg.ti 15 = some { desc := .pointer 115, size := 1, bytes := 8, zero := some [.nilp], agg := false, eq := true, fields := [] } := by kernel_rfl
@[simp] theorem ti16 : cfg.ti 16 = some { desc := .pointer 118, size := 1, bytes := 8, zero := some [.nilp], agg := false, eq := true, fields := [] } := by kernel_rfl
@[simp] theorem ti17 : cfg.ti 17 = some { desc := .pointer 125, size := 1, bytes := 8, zero := some [.nilp], agg := false, eq := true, fields := [] } := by kernel_rfl
@[simp] theorem ti18 : cfg.ti 18 = some { desc := .struct (fieldsAt Tryd.prog 18), size := 1, bytes := 8, zero := some [.nilp], agg := true, eq := false, fields := [(17, 0, 1)] } := by kernel_rfl
@[simp] theorem ti19 : cfg.ti 19 = some { desc := .struct (fieldsAt Tryd.prog 19), size := 1, bytes := 8, zero := some [.nilp], agg := true, eq := false, fields := [(17, 0, 1)] } := by kernel_rfl
-- type 20 left out
@[simp] theorem ti21 : cfg.ti 21 = some { desc := .int .i32, size := 1, bytes := 4, zero := some [.int .i32 0], agg := false, eq := true, fields := [] } := by kernel_rfl
-- type 22 left out
@[simp] theorem ti23 : cfg.ti 23 = some { desc := .slice 40, size := 1, bytes := 24, zero := some [.lst (some true) 0 []], agg := false, eq := true, fields := [] } := by kernel_rfl
@[simp] theorem ti24 : cfg.ti 24 = some { desc := .int .i64, size := 1, bytes := 8, zero := some [.int .i64 0], agg := false, eq := true, fields := [] } := by kernel_rfl
-- type 25 left out
-- type 26 left out
-- type 27 left out
-- type 28 left out
-- type 29 left out
-- type 30 left out
-- type 31 left out
-- type 32 left out
-- type 33 left out
-- type 34 left out
-- type 35 left out
@[simp] theorem ti36 : cfg.ti 36 = some { desc := .slice 3, size := 1, bytes := 24, zero := some [.lst (some true) 0 []], agg := false, eq := true, fields := [] } := by kernel_rfl
-- type 37 left out
-- type 38 left out
@[simp] theorem ti39 : cfg.ti 39 = some { desc := .struct (fieldsAt Tryd.prog 39), size := 3, bytes := 40, zero := some [.int .i64 0, .str [], .str []], agg := true, eq := true, fields := [(3, 0, 1), (9, 1, 1), (9, 2, 1)] } := by kernel_rfl
@[simp] theorem ti40 : cfg.ti 40 = some { desc := .struct (fieldsAt Tryd.prog 40), size := 3, bytes := 40, zero := some [.int .i64 0, .str [], .str []], agg := true, eq := true, fields := [(3, 0, 1), (9, 1, 1), (9, 2, 1)] } := by kernel_rfl
-- type 41 left out
-- type 42 left out
-- type 43 left out
-- type 44 left out
-- type 45 left out
-- type 46 left out
-- type 47 left out
-- type 48 left out
-- type 49 left out
-- type 50 left out
@[simp] theorem ti51 : cfg.ti 51 = some { desc := .slice 5, size := 1, bytes := 24, zero := some [.lst (some true) 0 []], agg := false, eq := true, fields := [] } := by kernel_rfl
-- type 52 left out
-- type 53 left out
-- type 54 left out
@[simp] theorem ti55 : cfg.ti 55 = some { desc := .pointer 57, size := 1, bytes := 8, zero := some [.nilp], agg := false, eq := true, fields := [] } := by kernel_rfl
@[simp] theorem ti56 : cfg.ti 56 = some { desc := .struct (fieldsAt Tryd.prog 56), size := 1, bytes := 24, zero := some [.lst (some true) 0 []], agg := true, eq := true, fields := [(51, 0, 1)] } := by kernel_rfl
@[simp] theorem ti57 : cfg.ti 57 = some { desc := .struct (fieldsAt Tryd.prog 57), size := 1, bytes := 24, zero := some [.lst (some true) 0 []], agg := true, eq := true, fields := [(51, 0, 1)] } := by kernel_rfl
-- type 58 left out
-- type 59 left out
@[simp] theorem ti60 : cfg.ti 60 = some { desc := .pointer 62, size := 1, bytes := 8, zero := some [.nilp], agg := false, eq := true, fields := [] } := by kernel_rfl
@[simp] theorem ti61 : cfg.ti 61 = some { desc := .struct (fieldsAt Tryd.prog 61), size := 2, bytes := 32, zero := some [.nilp, .lst (some true) 0 []], agg := true, eq := true, fields := [(60, 0, 1), (51, 1, 1)] } := by kernel_rfl
@[simp] theorem ti62 : cfg.ti 62 = some { desc := .struct (fieldsAt Tryd.prog 62), size := 2, bytes := 32, zero := some [.nilp, .lst (some true) 0 []], agg := true, eq := true, fields := [(60, 0, 1), (51, 1, 1)] } := by kernel_rfl
-- type 63 left out
-- type 64 left out
-- type 65 left out
-- type 66 left out
-- type 67 left out
-- type 68 left out
-- type 69 left out
-- type 70 left out
-- type 71 left out
-- type 72 left out
-- type 73 left out
-- type 74 left out
-- type 75 left out
-- type 76 left out
@[simp] theorem ti77 : cfg.ti 77 = some { desc := .int .u64, size := 1, bytes := 8, zero := some [.int .u64 0], agg := false, eq := true, fields := [] } := by kernel_rfl
-- type 78 left out
-- type 79 left out
-- type 80 left out
-- type 81 left out
-- type 82 left out
@[simp] theorem ti83 : cfg.ti 83 = some { desc := .pointer 5, size := 1, bytes := 8, zero := some [.nilp], agg := false, eq := true, fields := [] } := by kernel_rfl
-- type 84 left out
@[simp] theorem ti85 : cfg.ti 85 = some { desc := .array 256 4, size := 256, bytes := 256, zero := some [.bool false, .bool false, .bool false, .bool false, .bool false, .bool false, .bool false, .bool false, .bool false, .bool false, .bool false, .bool false, .bool false, .bool false, .bool false, .bool false, .bool false, .bool false, .bool false, .bool false, .bool false, .bool false, .bool false, .bool false, .bool false, .bool false, .bool false, .bool false, .bool false, .bool false, .bool false, .bool false, .bool false, .bool false, .bool false, .bool false, .bool false, .bool false, .bool false, .bool false, .bool false, .bool false, .bool false, .bool false, .bool false, .bool false, .bool false, .bool false, .bool false, .bool false, .bool false, .bool false, .bool false, .bool false, .bool false, .bool false, .bool false, .bool false, .bool false, .bool false, .bool false, .bool false, .bool false, .bool false, .bool false, .bool false, .bool false, .bool false, .bool false, .bool false, .bool false, .bool false, .bool false, .bool false, .bool false, .bool false, .bool false, .bool false, .bool false, .bool false, .bool false, .bool false, .bool false, .bool false, .bool false, .bool false, .bool false, .bool false, .bool false, .bool false, .bool false, .bool false, .bool false, .bool false, .bool false, .bool false, .bool false, .bool false, .bool false, .bool false, .bool false, .bool false, .bool false, .bool false, .bool false, .bool false, .bool false, .bool false, .bool false, .bool false, .bool false, .bool false, .bool false, .bool false, .bool false, .bool false, .bool false, .bool false, .bool false, .bool false, .bool false, .bool false, .bool false, .bool false, .bool false, .bool false, .bool false, .bool false, .bool false, .bool false, .bool false, .bool false, .bool false, .bool false, .bool false, .bool false, .bool false, .bool false, .bool false, .bool false, .bool false, .bool false, .bool false, .bool false, .bool false, .bool false, .bool false, .bool false, .bool false, .bool false, .bool false, .bool false, .bool false, .bool false, .bool false, .bool false, .bool false, .bool false, .bool false, .bool false, .bool false, .bool false, .bool false, .bool false, .bool false, .bool false, .bool false, .bool false, .bool false, .bool false, .bool false, .bool false, .bool false, .bool false, .bool false, .bool false, .bool false, .bool false, .bool false, .bool false, .bool false, .bool false, .bool false, .bool false, .bool false, .bool false, .bool false, .bool false, .bool false, .bool false, .bool false, .bool false, .bool false, .bool false, .bool false, .bool false, .bool false, .bool false, .bool false, .bool false, .bool false, .bool false, .bool false, .bool false, .bool false, .bool false, .bool false, .bool false, .bool false, .bool false, .bool false, .bool false, .bool false, .bool false, .bool false, .bool false, .bool false, .bool false, .bool false, .bool false, .bool false, .bool false, .bool false, .bool false, .bool false, .bool false, .bool false, .bool false, .bool false, .bool false, .bool false, .bool false, .bool false, .bool false, .bool false, .bool false, .bool false, .bool false, .bool false, .bool false, .bool false, .bool false, .bool false, .bool false, .bool false, .bool false, .bool false, .bool false, .bool false, .bool false, .bool false, .bool false, .bool false, .bool false, .bool false, .bool false], agg := true, eq := true, fields := [] } := by kernel_rfl
@[simp] theorem ti86 : cfg.ti 86 = some { desc := .array 256 4, size := 256, bytes := 256, zero := some [.bool false, .bool false, .bool false, .bool false, .bool false, .bool false, .bool false, .bool false, .bool false, .bool false, .bool false, .bool false, .bool false, .bool false, .bool false, .bool false, .bool false, .bool false, .bool false, .bool false, .bool false, .bool false, .bool false, .bool false, .bool false, .bool false, .bool false, .bool false, .bool false, .bool false, .bool false, .bool false, .bool false, .bool false, .bool false, .bool false, .bool false, .bool false, .bool false, .bool false, .bool false, .bool false, .bool false, .bool false, .bool false, .bool false, .bool false, .bool false, .bool false, .bool false, .bool false, .bool false, .bool false, .bool false, .bool false, .bool false, .bool false, .bool false, .bool false, .bool false, .bool false, .bool false, .bool false, .bool false, .bool false, .bool false, .bool false, .bool false, .bool false, .bool false, .bool false, .bool false, .bool false, .bool false, .bool false, .bool false, .bool false, .bool false, .bool false, .bool false, .bool false, .bool false, .bool false, .bool false, .bool false, .bool false, .bool false, .bool false, .bool false, .bool false, .bool false, .bool false, .bool false, .bool false, .bool false, .bool false, .bool false, .bool false, .bool false, .bool false, .bool false, .bool false, .bool false, .bool false, .bool false, .bool false, .bool false, .bool false, .bool false, .bool false, .bool false, .bool false, .bool false, .bool false, .bool false, .bool false, .bool false, .bool false, .bool false, .bool false, .bool false, .bool false, .bool false, .bool false, .bool false, .bool false, .bool false, .bool false, .bool false, .bool false, .bool false, .bool false, .bool false, .bool false, .bool false, .bool false, .bool false, .bool false, .bool false, .bool false, .bool false, .bool false, .bool false, .bool false, .bool false, .bool false, .bool false, .bool false, .bool false, .bool false, .bool false, .bool false, .bool false, .bool false, .bool false, .bool false, .bool false, .bool false, .bool false, .bool false, .bool false, .bool false, .bool false, .bool false, .bool false, .bool false, .bool false, .bool false, .bool false, .bool false, .bool false, .bool false, .bool false, .bool false, .bool false, .bool false, .bool false, .bool false, .bool false, .bool false, .bool false, .bool false, .bool false, .bool false, .bool false, .bool false, .bool false, .bool false, .bool false, .bool false, .bool false, .bool false, .bool false, .bool false, .bool false, .bool false, .bool false, .bool false, .bool false, .bool false, .bool false, .bool false, .bool false, .bool false, .bool false, .bool false, .bool false, .bool false, .bool false, .bool false, .bool false, .bool false, .bool false, .bool false, .bool false, .bool false, .bool false, .bool false, .bool false, .bool false, .bool false, .bool false, .bool false, .bool false, .bool false, .bool false, .bool false, .bool false, .bool false, .bool false, .bool false, .bool false, .bool false, .bool false, .bool false, .bool false, .bool false, .bool false, .bool false, .bool false, .bool false, .bool false, .bool false, .bool false, .bool false, .bool false, .bool false, .bool false, .bool false, .bool false, .bool false, .bool false, .bool false, .bool false, .bool false, .bool false], agg := true, eq := true, fields := [] } := by kernel_rfl
-- type 87 left out
-- type 88 left out
-- type 89 left out
@[simp] theorem ti90 : cfg.ti 90 = some { desc := .pointer 86, size := 1, bytes := 8, zero := some [.nilp], agg := false, eq := true, fields := [] } := by kernel_rfl
@[simp] theorem ti91 : cfg.ti 91 = some { desc := .unsafePointer, size := 1, bytes := 8, zero := some [.nilp], agg := false, eq := true, fields := [] } := by kernel_rfl
-- type 92 left out
@[simp] theorem ti93 : cfg.ti 93 = some { desc := .int .u32, size := 1, bytes := 4, zero := some [.int .u32 0], agg := false, eq := true, fields := [] } := by kernel_rfl
-- type 94 left out
-- type 95 left out
@[simp] theorem ti96 : cfg.ti 96 = some { desc := .int .u64, size := 1, bytes := 8, zero := some [.int .u64 0], agg := false, eq := true, fields := [] } := by kernel_rfl
-- type 97 left out
-- type 98 left out
-- type 99 left out
-- type 100 left out
-- type 101 left out
-- type 102 left out
-- type 103 left out
-- type 104 left out
-- type 105 left out
-- type 106 left out
-- type 107 left out
-- type 108 left out
@[simp] theorem ti109 : cfg.ti 109 = some { desc := .array 256 5, size := 256, bytes := 256, zero := some [.int .u8 0, .int .u8 0, .int .u8 0, .int .u8 0, .int .u8 0, .int .u8 0, .int .u8 0, .int .u8 0, .int .u8 0, .int .u8 0, .int .u8 0, .int .u8 0, .int .u8 0, .int .u8 0, .int .u8 0, .int .u8 0, .int .u8 0, .int .u8 0, .int .u8 0, .int .u8 0, .int .u8 0, .int .u8 0, .int .u8 0, .int .u8 0, .int .u8 0, .int .u8 0, .int .u8 0, .int .u8 0, .int .u8 0, .int .u8 0, .int .u8 0, .int .u8 0, .int .u8 0, .int .u8 0, .int .u8 0, .int .u8 0, .int .u8 0, .int .u8 0, .int .u8 0, .int .u8 0, .int .u8 0, .int .u8 0, .int .u8 0, .int .u8 0, .int .u8 0, .int .u8 0, .int .u8 0, .int .u8 0, .int .u8 0, .int .u8 0, .int .u8 0, .int .u8 0, .int .u8 0, .int .u8 0, .int .u8 0, .int .u8 0, .int .u8 0, .int .u8 0, .int .u8 0, .int .u8 0, .int .u8 0, .int .u8 0, .int .u8 0, .int .u8 0, .int .u8 0, .int .u8 0, .int .u8 0, .int .u8 0, .int .u8 0, .int .u8 0, .int .u8 0, .int .u8 0, .int .u8 0, .int .u8 0, .int .u8 0, .int .u8 0, .int .u8 0, .int .u8 0, .int .u8 0, .int .u8 0, .int .u8 0, .int .u8 0, .int .u8 0, .int .u8 0, .int .u8 0, .int .u8 0, .int .u8 0, .int .u8 0, .int .u8 0, .int .u8 0, .int .u8 0, .int .u8 0, .int .u8 0, .int .u8 0, .int .u8 0, .int .u8 0, .int .u8 0, .int .u8 0, .int .u8 0, .int .u8 0, .int .u8 0, .int .u8 0, .int .u8 0, .int .u8 0, .int .u8 0, .int .u8 0, .int .u8 0, .int .u8 0, .int .u8 0, .int .u8 0, .int .u8 0, .int .u8 0, .int .u8 0, .int .u8 0, .int .u8 0, .int .u8 0, .int .u8 0, .int .u8 0, .int .u8 0, .int .u8 0, .int .u8 0, .int .u8 0, .int .u8 0, .int .u8 0, .int .u8 0, .int .u8 0, .int .u8 0, .int .u8 0, .int .u8 0, .int .u8 0, .int .u8 0, .int .u8 0, .int .u8 0, .int .u8 0, .int .u8 0, .int .u8 0, .int .u8 0, .int .u8 0, .int .u8 0, .int .u8 0, .int .u8 0, .int .u8 0, .int .u8 0, .int .u8 0, .int .u8 0, .int .u8 0, .int .u8 0, .int .u8 0, .int .u8 0, .int .u8 0, .int .u8 0, .int .u8 0, .int .u8 0, .int .u8 0, .int .u8 0, .int .u8 0, .int .u8 0, .int .u8 0, .int .u8 0, .int .u8 0, .int .u8 0, .int .u8 0, .int .u8 0, .int .u8 0, .int .u8 0, .int .u8 0, .int .u8 0, .int .u8 0, .int .u8 0, .int .u8 0, .int .u8 0, .int .u8 0, .int .u8 0, .int .u8 0, .int .u8 0, .int .u8 0, .int .u8 0, .int .u8 0, .int .u8 0, .int .u8 0, .int .u8 0, .int .u8 0, .int .u8 0, .int .u8 0, .int .u8 0, .int .u8 0, .int .u8 0, .int .u8 0, .int .u8 0, .int .u8 0, .int .u8 0, .int .u8 0, .int .u8 0, .int .u8 0, .int .u8 0, .int .u8 0, .int .u8 0, .int .u8 0, .int .u8 0, .int .u8 0, .int .u8 0, .int .u8 0, .int .u8 0, .int .u8 0, .int .u8 0, .int .u8 0, .int .u8 0, .int .u8 0, .int .u8 0, .int .u8 0, .int .u8 0, .int .u8 0, .int .u8 0, .int .u8 0, .int .u8 0, .int .u8 0, .int .u8 0, .int .u8 0, .int .u8 0, .int .u8 0, .int .u8 0, .int .u8 0, .int .u8 0, .int .u8 0, .int .u8 0, .int .u8 0, .int .u8 0, .int .u8 0, .int .u8 0, .int .u8 0, .int .u8 0, .int .u8 0, .int .u8 0, .int .u8 0, .int .u8 0, .int .u8 0, .int .u8 0, .int .u8 0, .int .u8 0, .int .u8 0, .int .u8 0, .int .u8 0, .int .u8 0, .int .u8 0, .int .u8 0, .int .u8 0, .int .u8 0, .int .u8 0, .int .u8 0, .int .u8 0, .int .u8 0, .int .u8 0, .int .u8 0, .int .u8 0, .int .u8 0, .int .u8 0], agg := true, eq := true, fields := [] } := by kernel_rfl
@[simp] theorem ti110 : cfg.ti 110 = some { desc := .struct (fieldsAt Tryd.prog 110), size := 2, bytes := 2, zero := some [.int .u8 0, .int .u8 0], agg := true, eq := true, fields := [(5, 0, 1), (5, 1, 1)] } := by kernel_rfl
@[simp] theorem ti111 : cfg.ti 111 = some { desc := .struct (fieldsAt Tryd.prog 111), size := 2, bytes := 2, zero := some [.int .u8 0, .int .u8 0], agg := true, eq := true, fields := [(5, 0, 1), (5, 1, 1)] } := by kernel_rfl
@[simp] theorem ti112 : cfg.ti 112 = some { desc := .array 16 111, size := 32, bytes := 32, zero := some [.int .u8 0, .int .u8 0, .int .u8 0, .int .u8 0, .int .u8 0, .int .u8 0, .int .u8 0, .int .u8 0, .int .u8 0, .int .u8 0, .int .u8 0, .int .u8 0, .int .u8 0, .int .u8 0, .int .u8 0, .int .u8 0, .int .u8 0, .int .u8 0, .int .u8 0, .int .u8 0, .int .u8 0, .int .u8 0, .int .u8 0, .int .u8 0, .int .u8 0, .int .u8 0, .int .u8 0, .int .u8 0, .int .u8 0, .int .u8 0, .int .u8 0, .int .u8 0], agg := true, eq := true, fields := [] } := by kernel_rfl
-- type 113 left out
@[simp] theorem ti114 : cfg.ti 114 = some { desc := .struct (fieldsAt Tryd.prog 114), size := 4, bytes := 40, zero := some [.nilp, .nilp, .nilp, .str []], agg := true, eq := false, fields := [(17, 0, 1), (17, 1, 1), (17, 2, 1), (9, 3, 1)] } := by kernel_rfl
@[simp] theorem ti115 : cfg.ti 115 = some { desc := .struct (fieldsAt Tryd.prog 115), size := 4, bytes := 40, zero := some [.nilp, .nilp, .nilp, .str []], agg := true, eq := false, fields := [(17, 0, 1), (17, 1, 1), (17, 2, 1), (9, 3, 1)] } := by kernel_rfl
@[simp] theorem ti116 : cfg.ti 116 = some { desc := .array 0 16, size := 0, bytes := 0, zero := some [], agg := true, eq := true, fields := [] } := by kernel_rfl
@[simp] theorem ti117 : cfg.ti 117 = some { desc := .struct (fieldsAt Tryd.prog 117), size := 0, bytes := 0, zero := some [], agg := true, eq := false, fields := [(116, 0, 0)] } := by kernel_rfl
@[simp] theorem ti118 : cfg.ti 118 = some { desc := .struct (fieldsAt Tryd.prog 118), size := 0, bytes := 0, zero := some [], agg := true, eq := false, fields := [(116, 0, 0)] } := by kernel_rfl
@[simp] theorem ti119 : cfg.ti 119 = some { desc := .int .u8, size := 1, bytes := 1, zero := some [.int .u8 0], agg := false, eq := true, fields := [] } := by kernel_rfl
@[simp] theorem ti120 : cfg.ti 120 = some { desc := .int .u8, size := 1, bytes := 1, zero := some [.int .u8 0], agg := false, eq := true, fields := [] } := by kernel_rfl
-- type 121 left out
@[simp] theorem ti122 : cfg.ti 122 = some { desc := .int .i32, size := 1, bytes := 4, zero := some [.int .i32 0], agg := false, eq := true, fields := [] } := by kernel_rfl
@[simp] theorem ti123 : cfg.ti 123 = some { desc := .int .i32, size := 1, bytes := 4, zero := some [.int .i32 0], agg := false, eq := true, fields := [] } := by kernel_rfl
@[simp] theorem ti124 : cfg.ti 124 = some { desc := .struct (fieldsAt Tryd.prog 124), size := 11, bytes := 48, zero := some [.int .u64 0, .int .u64 0, .int .u32 0, .int .u8 0, .int .u8 0, .int .u8 0, .int .u8 0, .nilf, .nilp, .int .i32 0, .int .i32 0], agg := true, eq := false, fields := [(12, 0, 1), (12, 1, 1), (93, 2, 1), (119, 3, 1), (5, 4, 1), (5, 5, 1), (120, 6, 1), (121, 7, 1), (83, 8, 1), (122, 9, 1), (123, 10, 1)] } := by kernel_rfl
@[simp] theorem ti125 : cfg.ti 125 = some { desc := .struct (fieldsAt Tryd.prog 125), size := 11, bytes := 48, zero := some [.int .u64 0, .int .u64 0, .int .u32 0, .int .u8 0, .int .u8 0, .int .u8 0, .int .u8 0, .nilf, .nilp, .int .i32 0, .int .i32 0], agg := true, eq := false, fields := [(12, 0, 1), (12, 1, 1), (93, 2, 1), (119, 3, 1), (5, 4, 1), (5, 5, 1), (120, 6, 1), (121, 7, 1), (83, 8, 1), (122, 9, 1), (123, 10, 1)] } := by kernel_rfl
theorem fn0 : cfg.fn.get none 0 = some Tryd.f0 := by kernel_rfl
theorem fn1 : cfg.fn.get none 1 = some Tryd.f1 := by kernel_rfl
theorem fn2 : cfg.fn.get none 2 = some Tryd.f2 := by kernel_rfl
theorem fn3 : cfg.fn.get none 3 = some Tryd.f3 := by kernel_rfl
theorem fn4 : cfg.fn.get none 4 = some Tryd.f4 := by kernel_rfl
theorem fn5 : cfg.fn.get none 5 = some Tryd.f5 := by kernel_rfl
theorem fn6 : cfg.fn.get none 6 = some Tryd.f6 := by kernel_rfl
theorem fn7 : cfg.fn.get none 7 = some Tryd.f7 := by kernel_rfl
theorem fn8 : cfg.fn.get none 8 = some Tryd.f8 := by kernel_rfl
theorem fn9 : cfg.fn.get none 9 = some Tryd.f9 := by kernel_rfl
theorem fn10 : cfg.fn.get none 10 = some Tryd.f10 := by kernel_rfl
theorem fn11 : cfg.fn.get none 11 = some Tryd.f11 := by kernel_rfl
theorem fn12 : cfg.fn.get none 12 = some Tryd.f12 := by kernel_rfl
theorem fn13 : cfg.fn.get none 13 = some Tryd.f13 := by kernel_rfl
theorem fn14 : cfg.fn.get none 14 = some Tryd.f14 := by kernel_rfl
theorem fn15 : cfg.fn.get none 15 = some Tryd.f15 := by kernel_rfl
theorem fn16 : cfg.fn.get none 16 = some Tryd.f16 := by kernel_rfl
theorem fn17 : cfg.fn.get none 17 = some Tryd.f17 := by kernel_rfl
theorem fn18 : cfg.fn.get none 18 = some Tryd.f18 := by kernel_rfl
theorem fn19 : cfg.fn.get none 19 = some Tryd.f19 := by kernel_rfl
theorem fn20 : cfg.fn.get none 20 = some Tryd.f20 := by kernel_rfl
theorem fn21 : cfg.fn.get none 21 = some Tryd.f21 := by kernel_rfl
theorem fn22 : cfg.fn.get none 22 = some Tryd.f22 := by kernel_rfl
theorem fn23 : cfg.fn.get none 23 = some Tryd.f23 := by kernel_rfl
theorem fn24 : cfg.fn.get none 24 = some Tryd.f24 := by kernel_rfl
theorem fn25 : cfg.fn.get none 25 = some Tryd.f25 := by kernel_rfl
theorem fn26 : cfg.fn.get none 26 = some Tryd.f26 := by kernel_rfl
theorem fn27 : cfg.fn.get none 27 = some Tryd.f27 := by kernel_rfl
theorem fn28 : cfg.fn.get none 28 = some Tryd.f28 := by kernel_rfl
theorem fn29 : cfg.fn.get none 29 = some Tryd.f29 := by kernel_rfl
theorem fn30 : cfg.fn.get none 30 = some Tryd.f30 := by kernel_rfl
theorem fn31 : cfg.fn.get none 31 = some Tryd.f31 := by kernel_rfl
theorem fn32 : cfg.fn.get none 32 = some Tryd.f32 := by kernel_rfl
theorem fn33 : cfg.fn.get none 33 = some Tryd.f33 := by kernel_rfl
theorem fn34 : cfg.fn.get none 34 = some Tryd.f34 := by kernel_rfl
theorem fn35 : cfg.fn.get none 35 = some Tryd.f35 := by kernel_rfl
theorem fn36 : cfg.fn.get none 36 = some Tryd.f36 := by kernel_rfl
theorem fn37 : cfg.fn.get none 37 = some Tryd.f37 := by kernel_rfl
theorem fn38 : cfg.fn.get none 38 = some Tryd.f38 := by kernel_rfl
theorem fn39 : cfg.fn.get none 39 = some Tryd.f39 := by kernel_rfl
theorem fn40 : cfg.fn.get none 40 = some Tryd.f40 := by kernel_rfl
theorem fn41 : cfg.fn.get none 41 = some Tryd.f41 := by kernel_rfl
theorem fn42 : cfg.fn.get none 42 = some Tryd.f42 := by kernel_rfl
theorem fn43 : cfg.fn.get none 43 = some Tryd.f43 := by kernel_rfl
theorem fn44 : cfg.fn.get none 44 = some Tryd.f44 := by kernel_rfl
theorem fn45 : cfg.fn.get none 45 = some Tryd.f45 := by kernel_rfl
theorem fn46 : cfg.fn.get none 46 = some Tryd.f46 := by kernel_rfl
theorem fn47 : cfg.fn.get none 47 = some Tryd.f47 := by kernel_rfl
theorem fn48 : cfg.fn.get none 48 = some Tryd.f48 := by kernel_rfl
theorem fn49 : cfg.fn.get none 49 = some Tryd.f49 := by kernel_rfl
theorem fn50 : cfg.fn.get none 50 = some Tryd.f50 := by kernel_rfl
theorem fn51 : cfg.fn.get none 51 = some Tryd.f51 := by kernel_rfl
theorem fn52 : cfg.fn.get none 52 = some Tryd.f52 := by kernel_rfl
theorem fn53 : cfg.fn.get none 53 = some Tryd.f53 := by kernel_rfl
theorem fn54 : cfg.fn.get none 54 = some Tryd.f54 := by kernel_rfl
theorem fn55 : cfg.fn.get none 55 = some Tryd.f55 := by kernel_rfl
theorem fn56 : cfg.fn.get none 56 = some Tryd.f56 := by kernel_rfl
theorem fn57 : cfg.fn.get none 57 = some Tryd.f57 := by kernel_rfl
theorem fn58 : cfg.fn.get none 58 = some Tryd.f58 := by kernel_rfl
theorem fn59 : cfg.fn.get none 59 = some Tryd.f59 := by kernel_rfl
theorem fn60 : cfg.fn.get none 60 = some Tryd.f60 := by kernel_rfl
theorem fn61 : cfg.fn.get none 61 = some Tryd.f61 := by kernel_rfl
theorem fn62 : cfg.fn.get none 62 = some Tryd.f62 := by kernel_rfl
theorem fn63 : cfg.fn.get none 63 = some Tryd.f63 := by kernel_rfl
theorem fn64 : cfg.fn.get none 64 = some Tryd.f64 := by kernel_rfl
theorem fn65 : cfg.fn.get none 65 = some Tryd.f65 := by kernel_rfl
theorem fn66 : cfg.fn.get none 66 = some Tryd.f66 := by kernel_rfl
theorem fn67 : cfg.fn.get none 67 = some Tryd.f67 := by kernel_rfl
theorem fn68 : cfg.fn.get none 68 = some Tryd.f68 := by kernel_rfl
theorem fn69 : cfg.fn.get none 69 = some Tryd.f69 := by kernel_rfl
theorem fn70 : cfg.fn.get none 70 = some Tryd.f70 := by kernel_rfl
theorem fn71 : cfg.fn.get none 71 = some Tryd.f71 := by kernel_rfl
theorem fn72 : cfg.fn.get none 72 = some Tryd.f72 := by kernel_rfl
theorem fn73 : cfg.fn.get none 73 = some Tryd.f73 := by kernel_rfl
theorem fn74 : cfg.fn.get none 74 = some Tryd.f74 := by kernel_rfl
theorem fn75 : cfg.fn.get none 75 = some Tryd.f75 := by kernel_rfl
theorem fn76 : cfg.fn.get none 76 = some Tryd.f76 := by kernel_rfl
theorem fn77 : cfg.fn.get none 77 = some Tryd.f77 := by kernel_rfl
theorem fn78 : cfg.fn.get none 78 = some Tryd.f78 := by kernel_rfl
theorem fn79 : cfg.fn.get none 79 = some Tryd.f79 := by kernel_rfl
theorem fn80 : cfg.fn.get none 80 = some Tryd.f80 := by kernel_rfl
theorem fn81 : cfg.fn.get none 81 = some Tryd.f81 := by kernel_rfl
theorem fn82 : cfg.fn.get none 82 = some Tryd.f82 := by kernel_rfl
theorem fn83 : cfg.fn.get none 83 = some Tryd.f83 := by kernel_rfl
theorem fn84 : cfg.fn.get none 84 = some Tryd.f84 := by kernel_rfl
theorem fn85 : cfg.fn.get none 85 = some Tryd.f85 := by kernel_rfl
end Go.Proofs.YtibakcohkdfnoaaDoor
