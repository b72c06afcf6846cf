/-
  What the machine's tables hold: types and functions of this program (written by tables.py).
-/
import Derived.Test.YtfplnlmddcchjaaAmIr8
import Derived.Test.YtfplnlmddcchjaaSeat
namespace Go.Proofs.Ytfplnlmddcchjaa
open Go.Am
@[simp] theorem cfg_ext (f : FuncId) : cfg.ext f = exts f := rfl
@[simp] theorem cfg_ov (f : FuncId) : cfg.ov f = ovs f := rfl
@[simp] theorem cfg_ovb (f : FuncId) : cfg.ovb f = none := rfl
attribute [simp] exts ovs
@[simp] theorem ti2 : cfg.ti 2 = some { desc := .int .i64, size := 1, bytes := 8, zero := some [.int .i64 0], agg := false, eq := true, fields := [] } := by kernel_rfl
@[simp] theorem ti3 : cfg.ti 3 = some { desc := .int .i64, size := 1, bytes := 8, zero := some [.int .i64 0], agg := false, eq := true, fields := [] } := by kernel_rfl
@[simp] theorem ti4 : cfg.ti 4 = some { desc := .bool, size := 1, bytes := 1, zero := some [.bool false], agg := false, eq := true, fields := [] } := by kernel_rfl
@[simp] theorem ti5 : cfg.ti 5 = some { desc := .int .u8, size := 1, bytes := 1, zero := some [.int .u8 0], agg := false, eq := true, fields := [] } := by kernel_rfl
@[simp] theorem ti6 : cfg.ti 6 = some { desc := .int .u8, size := 1, bytes := 1, zero := some [.int .u8 0], agg := false, eq := true, fields := [] } := by kernel_rfl
@[simp] theorem ti7 : cfg.ti 7 = some { desc := .struct (fieldsAt Try.prog 7), size := 4, bytes := 24, zero := some [.int .i64 0, .int .i64 0, .bool false, .int .u8 0], agg := true, eq := true, fields := [(2, 0, 1), (3, 1, 1), (4, 2, 1), (6, 3, 1)] } := by kernel_rfl
@[simp] theorem ti8 : cfg.ti 8 = some { desc := .struct (fieldsAt Try.prog 8), size := 4, bytes := 24, zero := some [.int .i64 0, .int .i64 0, .bool false, .int .u8 0], agg := true, eq := true, fields := [(2, 0, 1), (3, 1, 1), (4, 2, 1), (6, 3, 1)] } := by kernel_rfl
@[simp] theorem ti9 : cfg.ti 9 = some { desc := .string, size := 1, bytes := 16, zero := some [.str []], agg := false, eq := true, fields := [] } := by kernel_rfl
@[simp] theorem ti10 : cfg.ti 10 = some { desc := .string, size := 1, bytes := 16, zero := some [.str []], agg := false, eq := true, fields := [] } := by kernel_rfl
@[simp] theorem ti11 : cfg.ti 11 = some { desc := .string, size := 1, bytes := 16, zero := some [.str []], agg := false, eq := true, fields := [] } := by kernel_rfl
@[simp] theorem ti12 : cfg.ti 12 = some { desc := .int .u64, size := 1, bytes := 8, zero := some [.int .u64 0], agg := false, eq := true, fields := [] } := by kernel_rfl
@[simp] theorem ti13 : cfg.ti 13 = some { desc := .struct (fieldsAt Try.prog 13), size := 2, bytes := 24, zero := some [.str [], .int .u64 0], agg := true, eq := false, fields := [(9, 0, 1), (12, 1, 1)] } := by kernel_rfl
@[simp] theorem ti14 : cfg.ti 14 = some { desc := .struct (fieldsAt Try.prog 14), size := 2, bytes := 24, zero := some [.str [], .int .u64 0], agg := true, eq := false, fields := [(9, 0, 1), (12, 1, 1)] } := by kernel_rfl
@[simp] theorem ti15 : cfg.ti 15 = some { desc := .pointer 80, size := 1, bytes := 8, zero := some [.nilp], agg := false, eq := true, fields := [] } := by kernel_rfl
@[simp] theorem ti16 : cfg.ti 16 = some { desc := .pointer 83, size := 1, bytes := 8, zero := some [.nilp], agg := false, eq := true, fields := [] } := by kernel_rfl
@[simp] theorem ti17 : cfg.ti 17 = some { desc := .pointer 90, size := 1, bytes := 8, zero := some [.nilp], agg := false, eq := true, fields := [] } := by kernel_rfl
@[simp] theorem ti18 : cfg.ti 18 = some { desc := .struct (fieldsAt Try.prog 18), size := 1, bytes := 8, zero := some [.nilp], agg := true, eq := false, fields := [(17, 0, 1)] } := by kernel_rfl
@[simp] theorem ti19 : cfg.ti 19 = some { desc := .struct (fieldsAt Try.prog 19), size := 1, bytes := 8, zero := some [.nilp], agg := true, eq := false, fields := [(17, 0, 1)] } := by kernel_rfl
@[simp] theorem ti21 : cfg.ti 21 = some { desc := .int .i32, size := 1, bytes := 4, zero := some [.int .i32 0], agg := false, eq := true, fields := [] } := by kernel_rfl
@[simp] theorem ti22 : cfg.ti 22 = some { desc := .int .u64, size := 1, bytes := 8, zero := some [.int .u64 0], agg := false, eq := true, fields := [] } := by kernel_rfl
@[simp] theorem ti23 : cfg.ti 23 = some { desc := .array 25 22, size := 25, bytes := 200, zero := some [.int .u64 0, .int .u64 0, .int .u64 0, .int .u64 0, .int .u64 0, .int .u64 0, .int .u64 0, .int .u64 0, .int .u64 0, .int .u64 0, .int .u64 0, .int .u64 0, .int .u64 0, .int .u64 0, .int .u64 0, .int .u64 0, .int .u64 0, .int .u64 0, .int .u64 0, .int .u64 0, .int .u64 0, .int .u64 0, .int .u64 0, .int .u64 0, .int .u64 0], agg := true, eq := true, fields := [] } := by kernel_rfl
@[simp] theorem ti29 : cfg.ti 29 = some { desc := .int .i64, size := 1, bytes := 8, zero := some [.int .i64 0], agg := false, eq := true, fields := [] } := by kernel_rfl
@[simp] theorem ti34 : cfg.ti 34 = some { desc := .slice 38, size := 1, bytes := 24, zero := some [.lst (some true) 0 []], agg := false, eq := true, fields := [] } := by kernel_rfl
@[simp] theorem ti35 : cfg.ti 35 = some { desc := .pointer 59, size := 1, bytes := 8, zero := some [.nilp], agg := false, eq := true, fields := [] } := by kernel_rfl
@[simp] theorem ti38 : cfg.ti 38 = some { desc := .slice 9, size := 1, bytes := 24, zero := some [.lst (some true) 0 []], agg := false, eq := true, fields := [] } := by kernel_rfl
@[simp] theorem ti42 : cfg.ti 42 = some { desc := .array 25 3, size := 25, bytes := 200, zero := some [.int .i64 0, .int .i64 0, .int .i64 0, .int .i64 0, .int .i64 0, .int .i64 0, .int .i64 0, .int .i64 0, .int .i64 0, .int .i64 0, .int .i64 0, .int .i64 0, .int .i64 0, .int .i64 0, .int .i64 0, .int .i64 0, .int .i64 0, .int .i64 0, .int .i64 0, .int .i64 0, .int .i64 0, .int .i64 0, .int .i64 0, .int .i64 0, .int .i64 0], agg := true, eq := true, fields := [] } := by kernel_rfl
@[simp] theorem ti44 : cfg.ti 44 = some { desc := .array 24 22, size := 24, bytes := 192, zero := some [.int .u64 0, .int .u64 0, .int .u64 0, .int .u64 0, .int .u64 0, .int .u64 0, .int .u64 0, .int .u64 0, .int .u64 0, .int .u64 0, .int .u64 0, .int .u64 0, .int .u64 0, .int .u64 0, .int .u64 0, .int .u64 0, .int .u64 0, .int .u64 0, .int .u64 0, .int .u64 0, .int .u64 0, .int .u64 0, .int .u64 0, .int .u64 0], agg := true, eq := true, fields := [] } := by kernel_rfl
@[simp] theorem ti48 : cfg.ti 48 = some { desc := .slice 5, size := 1, bytes := 24, zero := some [.lst (some true) 0 []], agg := false, eq := true, fields := [] } := by kernel_rfl
@[simp] theorem ti49 : cfg.ti 49 = some { desc := .pointer 51, size := 1, bytes := 8, zero := some [.nilp], agg := false, eq := true, fields := [] } := by kernel_rfl
@[simp] theorem ti50 : cfg.ti 50 = some { desc := .struct (fieldsAt Try.prog 50), size := 2, bytes := 32, zero := some [.nilp, .lst (some true) 0 []], agg := true, eq := true, fields := [(49, 0, 1), (48, 1, 1)] } := by kernel_rfl
@[simp] theorem ti51 : cfg.ti 51 = some { desc := .struct (fieldsAt Try.prog 51), size := 2, bytes := 32, zero := some [.nilp, .lst (some true) 0 []], agg := true, eq := true, fields := [(49, 0, 1), (48, 1, 1)] } := by kernel_rfl
@[simp] theorem ti55 : cfg.ti 55 = some { desc := .int .u64, size := 1, bytes := 8, zero := some [.int .u64 0], agg := false, eq := true, fields := [] } := by kernel_rfl
@[simp] theorem ti58 : cfg.ti 58 = some { desc := .struct (fieldsAt Try.prog 58), size := 27, bytes := 224, zero := some [.int .u64 0, .int .u64 0, .int .u64 0, .int .u64 0, .int .u64 0, .int .u64 0, .int .u64 0, .int .u64 0, .int .u64 0, .int .u64 0, .int .u64 0, .int .u64 0, .int .u64 0, .int .u64 0, .int .u64 0, .int .u64 0, .int .u64 0, .int .u64 0, .int .u64 0, .int .u64 0, .int .u64 0, .int .u64 0, .int .u64 0, .int .u64 0, .int .u64 0, .str [], .int .i64 0], agg := true, eq := true, fields := [(23, 0, 25), (9, 25, 1), (3, 26, 1)] } := by kernel_rfl
@[simp] theorem ti59 : cfg.ti 59 = some { desc := .struct (fieldsAt Try.prog 59), size := 27, bytes := 224, zero := some [.int .u64 0, .int .u64 0, .int .u64 0, .int .u64 0, .int .u64 0, .int .u64 0, .int .u64 0, .int .u64 0, .int .u64 0, .int .u64 0, .int .u64 0, .int .u64 0, .int .u64 0, .int .u64 0, .int .u64 0, .int .u64 0, .int .u64 0, .int .u64 0, .int .u64 0, .int .u64 0, .int .u64 0, .int .u64 0, .int .u64 0, .int .u64 0, .int .u64 0, .str [], .int .i64 0], agg := true, eq := true, fields := [(23, 0, 25), (9, 25, 1), (3, 26, 1)] } := by kernel_rfl
@[simp] theorem ti62 : cfg.ti 62 = some { desc := .array 5 22, size := 5, bytes := 40, zero := some [.int .u64 0, .int .u64 0, .int .u64 0, .int .u64 0, .int .u64 0], agg := true, eq := true, fields := [] } := by kernel_rfl
@[simp] theorem ti64 : cfg.ti 64 = some { desc := .pointer 5, size := 1, bytes := 8, zero := some [.nilp], agg := false, eq := true, fields := [] } := by kernel_rfl
@[simp] theorem ti71 : cfg.ti 71 = some { desc := .unsafePointer, size := 1, bytes := 8, zero := some [.nilp], agg := false, eq := true, fields := [] } := by kernel_rfl
@[simp] theorem ti73 : cfg.ti 73 = some { desc := .int .u32, size := 1, bytes := 4, zero := some [.int .u32 0], agg := false, eq := true, fields := [] } := by kernel_rfl
theorem fn0 : cfg.fn.get none 0 = some Try.f0 := by kernel_rfl
theorem fn1 : cfg.fn.get none 1 = some Try.f1 := by kernel_rfl
theorem fn2 : cfg.fn.get none 2 = some Try.f2 := by kernel_rfl
theorem fn3 : cfg.fn.get none 3 = some Try.f3 := by kernel_rfl
theorem fn4 : cfg.fn.get none 4 = some Try.f4 := by kernel_rfl
theorem fn5 : cfg.fn.get none 5 = some Try.f5 := by kernel_rfl
theorem fn6 : cfg.fn.get none 6 = some Try.f6 := by kernel_rfl
theorem fn7 : cfg.fn.get none 7 = some Try.f7 := by kernel_rfl
theorem fn8 : cfg.fn.get none 8 = some Try.f8 := by kernel_rfl
theorem fn9 : cfg.fn.get none 9 = some Try.f9 := by kernel_rfl
theorem fn10 : cfg.fn.get none 10 = some Try.f10 := by kernel_rfl
theorem fn11 : cfg.fn.get none 11 = some Try.f11 := by kernel_rfl
theorem fn12 : cfg.fn.get none 12 = some Try.f12 := by kernel_rfl
theorem fn13 : cfg.fn.get none 13 = some Try.f13 := by kernel_rfl
theorem fn14 : cfg.fn.get none 14 = some Try.f14 := by kernel_rfl
theorem fn15 : cfg.fn.get none 15 = some Try.f15 := by kernel_rfl
theorem fn16 : cfg.fn.get none 16 = some Try.f16 := by kernel_rfl
theorem fn17 : cfg.fn.get none 17 = some Try.f17 := by kernel_rfl
theorem fn18 : cfg.fn.get none 18 = some Try.f18 := by kernel_rfl
theorem fn19 : cfg.fn.get none 19 = some Try.f19 := by kernel_rfl
theorem fn20 : cfg.fn.get none 20 = some Try.f20 := by kernel_rfl
theorem fn21 : cfg.fn.get none 21 = some Try.f21 := by kernel_rfl
theorem fn22 : cfg.fn.get none 22 = some Try.f22 := by kernel_rfl
theorem fn23 : cfg.fn.get none 23 = some Try.f23 := by kernel_rfl
theorem fn24 : cfg.fn.get none 24 = some Try.f24 := by kernel_rfl
theorem fn25 : cfg.fn.get none 25 = some Try.f25 := by kernel_rfl
theorem fn26 : cfg.fn.get none 26 = some Try.f26 := by kernel_rfl
theorem fn27 : cfg.fn.get none 27 = some Try.f27 := by kernel_rfl
theorem fn28 : cfg.fn.get none 28 = some Try.f28 := by kernel_rfl
theorem fn29 : cfg.fn.get none 29 = some Try.f29 := by kernel_rfl
theorem fn30 : cfg.fn.get none 30 = some Try.f30 := by kernel_rfl
theorem fn31 : cfg.fn.get none 31 = some Try.f31 := by kernel_rfl
theorem fn32 : cfg.fn.get none 32 = some Try.f32 := by kernel_rfl
theorem fn33 : cfg.fn.get none 33 = some Try.f33 := by kernel_rfl
theorem fn34 : cfg.fn.get none 34 = some Try.f34 := by kernel_rfl
theorem fn35 : cfg.fn.get none 35 = some Try.f35 := by kernel_rfl
theorem fn36 : cfg.fn.get none 36 = some Try.f36 := by kernel_rfl
theorem fn37 : cfg.fn.get none 37 = some Try.f37 := by kernel_rfl
theorem fn38 : cfg.fn.get none 38 = some Try.f38 := by kernel_rfl
theorem fn39 : cfg.fn.get none 39 = some Try.f39 := by kernel_rfl
theorem fn40 : cfg.fn.get none 40 = some Try.f40 := by kernel_rfl
theorem fn41 : cfg.fn.get none 41 = some Try.f41 := by kernel_rfl
theorem fn42 : cfg.fn.get none 42 = some Try.f42 := by kernel_rfl
theorem fn43 : cfg.fn.get none 43 = some Try.f43 := by kernel_rfl
theorem fn44 : cfg.fn.get none 44 = some Try.f44 := by kernel_rfl
theorem fn45 : cfg.fn.get none 45 = some Try.f45 := by kernel_rfl
theorem fn46 : cfg.fn.get none 46 = some Try.f46 := by kernel_rfl
theorem fn47 : cfg.fn.get none 47 = some Try.f47 := by kernel_rfl
theorem fn48 : cfg.fn.get none 48 = some Try.f48 := by kernel_rfl
theorem fn49 : cfg.fn.get none 49 = some Try.f49 := by kernel_rfl
theorem fn50 : cfg.fn.get none 50 = some Try.f50 := by kernel_rfl
theorem fn51 : cfg.fn.get none 51 = some Try.f51 := by kernel_rfl
end Go.Proofs.Ytfplnlmddcchjaa
