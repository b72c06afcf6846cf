/-
  What the machine's tables hold: types and functions of this program (written by tables.py).
-/
import Derived.Test.YtlolhkjjbgpfbaaGreatDoorAmIr7
import Derived.Test.YtlolhkjjbgpfbaaGreatDoorSeat
set_option linter.all false
namespace Go.Proofs.YtlolhkjjbgpfbaaGreatDoor
open Go.Am
@[simp] theorem cfg_ext (f : FuncId) : cfg.ext f = exts f := rfl
@[simp] theorem cfg_ov (f : FuncId) : cfg.ov f = ovs f := rfl
@[simp] theorem cfg_ovb (f : FuncId) : cfg.ovb f = ovbs f := rfl
@[simp] theorem cfg_own (f : FuncId) : cfg.own f = owns f := rfl
@[simp] theorem cfg_cut : cfg.cut = true := rfl
@[simp] theorem cfg_muts (f : FuncId) : cfg.muts f = muts f := rfl
attribute [simp] exts ovs owns muts ovbs
-- type 1 left out
@[simp] theorem ti2 : cfg.ti 2 = some { desc := .int .i64, size := 1, bytes := 8, zero := some [.int .i64 0], agg := false, eq := true, fields := [] } := by kernel_rfl
@[simp] theorem ti3 : cfg.ti 3 = some { desc := .int .i64, size := 1, bytes := 8, zero := some [.int .i64 0], agg := false, eq := true, fields := [] } := by kernel_rfl
@[simp] theorem ti4 : cfg.ti 4 = some { desc := .bool, size := 1, bytes := 1, zero := some [.bool false], agg := false, eq := true, fields := [] } := by kernel_rfl
@[simp] theorem ti5 : cfg.ti 5 = some { desc := .int .u8, size := 1, bytes := 1, zero := some [.int .u8 0], agg := false, eq := true, fields := [] } := by kernel_rfl
@[simp] theorem ti6 : cfg.ti 6 = some { desc := .int .u8, size := 1, bytes := 1, zero := some [.int .u8 0], agg := false, eq := true, fields := [] } := by kernel_rfl
@[simp] theorem ti7 : cfg.ti 7 = some { desc := .struct (fieldsAt Tryz.prog 7), size := 4, bytes := 24, zero := some [.int .i64 0, .int .i64 0, .bool false, .int .u8 0], agg := true, eq := true, fields := [(2, 0, 1), (3, 1, 1), (4, 2, 1), (6, 3, 1)] } := by kernel_rfl
@[simp] theorem ti8 : cfg.ti 8 = some { desc := .struct (fieldsAt Tryz.prog 8), size := 4, bytes := 24, zero := some [.int .i64 0, .int .i64 0, .bool false, .int .u8 0], agg := true, eq := true, fields := [(2, 0, 1), (3, 1, 1), (4, 2, 1), (6, 3, 1)] } := by kernel_rfl
@[simp] theorem ti9 : cfg.ti 9 = some { desc := .string, size := 1, bytes := 16, zero := some [.str []], agg := false, eq := true, fields := [] } := by kernel_rfl
@[simp] theorem ti10 : cfg.ti 10 = some { desc := .string, size := 1, bytes := 16, zero := some [.str []], agg := false, eq := true, fields := [] } := by kernel_rfl
@[simp] theorem ti11 : cfg.ti 11 = some { desc := .string, size := 1, bytes := 16, zero := some [.str []], agg := false, eq := true, fields := [] } := by kernel_rfl
@[simp] theorem ti12 : cfg.ti 12 = some { desc := .int .u64, size := 1, bytes := 8, zero := some [.int .u64 0], agg := false, eq := true, fields := [] } := by kernel_rfl
@[simp] theorem ti13 : cfg.ti 13 = some { desc := .struct (fieldsAt Tryz.prog 13), size := 2, bytes := 24, zero := some [.str [], .int .u64 0], agg := true, eq := false, fields := [(9, 0, 1), (12, 1, 1)] } := by kernel_rfl
@[simp] theorem ti14 : cfg.ti 14 = some { desc := .struct (fieldsAt Tryz.prog 14), size := 2, bytes := 24, zero := some [.str [], .int .u64 0], agg := true, eq := false, fields := [(9, 0, 1), (12, 1, 1)] } := by kernel_rfl
@[simp] theorem ti15 : cfg.ti 15 = some { desc := .pointer 212, size := 1, bytes := 8, zero := some [.nilp], agg := false, eq := true, fields := [] } := by kernel_rfl
@[simp] theorem ti16 : cfg.ti 16 = some { desc := .pointer 215, size := 1, bytes := 8, zero := some [.nilp], agg := false, eq := true, fields := [] } := by kernel_rfl
@[simp] theorem ti17 : cfg.ti 17 = some { desc := .pointer 222, size := 1, bytes := 8, zero := some [.nilp], agg := false, eq := true, fields := [] } := by kernel_rfl
@[simp] theorem ti18 : cfg.ti 18 = some { desc := .struct (fieldsAt Tryz.prog 18), size := 1, bytes := 8, zero := some [.nilp], agg := true, eq := false, fields := [(17, 0, 1)] } := by kernel_rfl
@[simp] theorem ti19 : cfg.ti 19 = some { desc := .struct (fieldsAt Tryz.prog 19), size := 1, bytes := 8, zero := some [.nilp], agg := true, eq := false, fields := [(17, 0, 1)] } := by kernel_rfl
@[simp] theorem ti20 : cfg.ti 20 = some { desc := .interface (match Tryz.prog.underlying 20 with | some (.interface ms) => ms | _ => #[]), size := 1, bytes := 16, zero := some [.ifc false], agg := false, eq := true, fields := [] } := by kernel_rfl
@[simp] theorem ti21 : cfg.ti 21 = some { desc := .int .i32, size := 1, bytes := 4, zero := some [.int .i32 0], agg := false, eq := true, fields := [] } := by kernel_rfl
-- type 22 left out
-- type 23 left out
-- type 24 left out
-- type 25 left out
-- type 26 left out
-- type 27 left out
@[simp] theorem ti28 : cfg.ti 28 = some { desc := .slice 51, size := 1, bytes := 24, zero := some [.lst (some true) 0 []], agg := false, eq := true, fields := [] } := by kernel_rfl
-- type 29 left out
@[simp] theorem ti30 : cfg.ti 30 = some { desc := .int .i64, size := 1, bytes := 8, zero := some [.int .i64 0], agg := false, eq := true, fields := [] } := by kernel_rfl
-- type 32 left out
-- type 33 left out
@[simp] theorem ti34 : cfg.ti 34 = some { desc := .slice 46, size := 1, bytes := 24, zero := some [.lst (some true) 0 []], agg := false, eq := true, fields := [] } := by kernel_rfl
-- type 36 left out
@[simp] theorem ti37 : cfg.ti 37 = some { desc := .slice 3, size := 1, bytes := 24, zero := some [.lst (some true) 0 []], agg := false, eq := true, fields := [] } := by kernel_rfl
-- type 39 left out
-- type 40 left out
-- type 41 left out
-- type 42 left out
-- type 44 left out
@[simp] theorem ti45 : cfg.ti 45 = some { desc := .struct (fieldsAt Tryz.prog 45), size := 2, bytes := 24, zero := some [.str [], .int .i64 0], agg := true, eq := true, fields := [(9, 0, 1), (3, 1, 1)] } := by kernel_rfl
@[simp] theorem ti46 : cfg.ti 46 = some { desc := .struct (fieldsAt Tryz.prog 46), size := 2, bytes := 24, zero := some [.str [], .int .i64 0], agg := true, eq := true, fields := [(9, 0, 1), (3, 1, 1)] } := by kernel_rfl
@[simp] theorem ti47 : cfg.ti 47 = some { desc := .struct (fieldsAt Tryz.prog 47), size := 2, bytes := 16, zero := some [.int .i64 0, .int .i64 0], agg := true, eq := true, fields := [(3, 0, 1), (3, 1, 1)] } := by kernel_rfl
@[simp] theorem ti48 : cfg.ti 48 = some { desc := .struct (fieldsAt Tryz.prog 48), size := 2, bytes := 16, zero := some [.int .i64 0, .int .i64 0], agg := true, eq := true, fields := [(3, 0, 1), (3, 1, 1)] } := by kernel_rfl
@[simp] theorem ti49 : cfg.ti 49 = some { desc := .slice 70, size := 1, bytes := 24, zero := some [.lst (some true) 0 []], agg := false, eq := true, fields := [] } := by kernel_rfl
@[simp] theorem ti50 : cfg.ti 50 = some { desc := .struct (fieldsAt Tryz.prog 50), size := 6, bytes := 80, zero := some [.int .i64 0, .int .i64 0, .int .i64 0, .int .i64 0, .lst (some true) 0 [], .lst (some true) 0 []], agg := true, eq := true, fields := [(3, 0, 1), (3, 1, 1), (48, 2, 2), (49, 4, 1), (37, 5, 1)] } := by kernel_rfl
@[simp] theorem ti51 : cfg.ti 51 = some { desc := .struct (fieldsAt Tryz.prog 51), size := 6, bytes := 80, zero := some [.int .i64 0, .int .i64 0, .int .i64 0, .int .i64 0, .lst (some true) 0 [], .lst (some true) 0 []], agg := true, eq := true, fields := [(3, 0, 1), (3, 1, 1), (48, 2, 2), (49, 4, 1), (37, 5, 1)] } := by kernel_rfl
-- type 53 left out
-- type 55 left out
-- type 56 left out
@[simp] theorem ti57 : cfg.ti 57 = some { desc := .slice 9, size := 1, bytes := 24, zero := some [.lst (some true) 0 []], agg := false, eq := true, fields := [] } := by kernel_rfl
-- type 58 left out
-- type 59 left out
-- type 60 left out
-- type 61 left out
@[simp] theorem ti62 : cfg.ti 62 = some { desc := .int .u32, size := 1, bytes := 4, zero := some [.int .u32 0], agg := false, eq := true, fields := [] } := by kernel_rfl
@[simp] theorem ti63 : cfg.ti 63 = some { desc := .slice 5, size := 1, bytes := 24, zero := some [.lst (some true) 0 []], agg := false, eq := true, fields := [] } := by kernel_rfl
-- type 64 left out
-- type 65 left out
-- type 66 left out
-- type 67 left out
-- type 68 left out
@[simp] theorem ti69 : cfg.ti 69 = some { desc := .struct (fieldsAt Tryz.prog 69), size := 3, bytes := 32, zero := some [.str [], .int .i64 0, .int .i64 0], agg := true, eq := true, fields := [(9, 0, 1), (48, 1, 2)] } := by kernel_rfl
@[simp] theorem ti70 : cfg.ti 70 = some { desc := .struct (fieldsAt Tryz.prog 70), size := 3, bytes := 32, zero := some [.str [], .int .i64 0, .int .i64 0], agg := true, eq := true, fields := [(9, 0, 1), (48, 1, 2)] } := by kernel_rfl
-- type 71 left out
-- type 72 left out
-- type 73 left out
-- type 74 left out
-- type 75 left out
-- type 76 left out
-- type 77 left out
-- type 78 left out
-- type 79 left out
-- type 80 left out
-- type 81 left out
-- type 82 left out
-- type 83 left out
-- type 84 left out
-- type 85 left out
-- type 86 left out
-- type 87 left out
-- type 88 left out
-- type 89 left out
-- type 90 left out
-- type 91 left out
-- type 92 left out
-- type 93 left out
-- type 94 left out
-- type 96 left out
-- type 97 left out
@[simp] theorem ti98 : cfg.ti 98 = some { desc := .pointer 100, size := 1, bytes := 8, zero := some [.nilp], agg := false, eq := true, fields := [] } := by kernel_rfl
@[simp] theorem ti99 : cfg.ti 99 = some { desc := .struct (fieldsAt Tryz.prog 99), size := 2, bytes := 32, zero := some [.nilp, .lst (some true) 0 []], agg := true, eq := true, fields := [(98, 0, 1), (63, 1, 1)] } := by kernel_rfl
@[simp] theorem ti100 : cfg.ti 100 = some { desc := .struct (fieldsAt Tryz.prog 100), size := 2, bytes := 32, zero := some [.nilp, .lst (some true) 0 []], agg := true, eq := true, fields := [(98, 0, 1), (63, 1, 1)] } := by kernel_rfl
-- type 101 left out
@[simp] theorem ti102 : cfg.ti 102 = some { desc := .interface (match Tryz.prog.underlying 102 with | some (.interface ms) => ms | _ => #[]), size := 1, bytes := 16, zero := some [.ifc false], agg := false, eq := false, fields := [] } := by kernel_rfl
@[simp] theorem ti103 : cfg.ti 103 = some { desc := .interface (match Tryz.prog.underlying 103 with | some (.interface ms) => ms | _ => #[]), size := 1, bytes := 16, zero := some [.ifc false], agg := false, eq := false, fields := [] } := by kernel_rfl
-- type 105 left out
-- type 106 left out
-- type 107 left out
@[simp] theorem ti108 : cfg.ti 108 = some { desc := .array 256 4, size := 256, bytes := 256, zero := some [.bool false, .bool false, .bool false, .bool false, .bool false, .bool false, .bool false, .bool false, .bool false, .bool false, .bool false, .bool false, .bool false, .bool false, .bool false, .bool false, .bool false, .bool false, .bool false, .bool false, .bool false, .bool false, .bool false, .bool false, .bool false, .bool false, .bool false, .bool false, .bool false, .bool false, .bool false, .bool false, .bool false, .bool false, .bool false, .bool false, .bool false, .bool false, .bool false, .bool false, .bool false, .bool false, .bool false, .bool false, .bool false, .bool false, .bool false, .bool false, .bool false, .bool false, .bool false, .bool false, .bool false, .bool false, .bool false, .bool false, .bool false, .bool false, .bool false, .bool false, .bool false, .bool false, .bool false, .bool false, .bool false, .bool false, .bool false, .bool false, .bool false, .bool false, .bool false, .bool false, .bool false, .bool false, .bool false, .bool false, .bool false, .bool false, .bool false, .bool false, .bool false, .bool false, .bool false, .bool false, .bool false, .bool false, .bool false, .bool false, .bool false, .bool false, .bool false, .bool false, .bool false, .bool false, .bool false, .bool false, .bool false, .bool false, .bool false, .bool false, .bool false, .bool false, .bool false, .bool false, .bool false, .bool false, .bool false, .bool false, .bool false, .bool false, .bool false, .bool false, .bool false, .bool false, .bool false, .bool false, .bool false, .bool false, .bool false, .bool false, .bool false, .bool false, .bool false, .bool false, .bool false, .bool false, .bool false, .bool false, .bool false, .bool false, .bool false, .bool false, .bool false, .bool false, .bool false, .bool false, .bool false, .bool false, .bool false, .bool false, .bool false, .bool false, .bool false, .bool false, .bool false, .bool false, .bool false, .bool false, .bool false, .bool false, .bool false, .bool false, .bool false, .bool false, .bool false, .bool false, .bool false, .bool false, .bool false, .bool false, .bool false, .bool false, .bool false, .bool false, .bool false, .bool false, .bool false, .bool false, .bool false, .bool false, .bool false, .bool false, .bool false, .bool false, .bool false, .bool false, .bool false, .bool false, .bool false, .bool false, .bool false, .bool false, .bool false, .bool false, .bool false, .bool false, .bool false, .bool false, .bool false, .bool false, .bool false, .bool false, .bool false, .bool false, .bool false, .bool false, .bool false, .bool false, .bool false, .bool false, .bool false, .bool false, .bool false, .bool false, .bool false, .bool false, .bool false, .bool false, .bool false, .bool false, .bool false, .bool false, .bool false, .bool false, .bool false, .bool false, .bool false, .bool false, .bool false, .bool false, .bool false, .bool false, .bool false, .bool false, .bool false, .bool false, .bool false, .bool false, .bool false, .bool false, .bool false, .bool false, .bool false, .bool false, .bool false, .bool false, .bool false, .bool false, .bool false, .bool false, .bool false, .bool false, .bool false, .bool false, .bool false, .bool false, .bool false, .bool false, .bool false, .bool false, .bool false, .bool false, .bool false, .bool false, .bool false, .bool false], agg := true, eq := true, fields := [] } := by kernel_rfl
@[simp] theorem ti109 : cfg.ti 109 = some { desc := .array 256 4, size := 256, bytes := 256, zero := some [.bool false, .bool false, .bool false, .bool false, .bool false, .bool false, .bool false, .bool false, .bool false, .bool false, .bool false, .bool false, .bool false, .bool false, .bool false, .bool false, .bool false, .bool false, .bool false, .bool false, .bool false, .bool false, .bool false, .bool false, .bool false, .bool false, .bool false, .bool false, .bool false, .bool false, .bool false, .bool false, .bool false, .bool false, .bool false, .bool false, .bool false, .bool false, .bool false, .bool false, .bool false, .bool false, .bool false, .bool false, .bool false, .bool false, .bool false, .bool false, .bool false, .bool false, .bool false, .bool false, .bool false, .bool false, .bool false, .bool false, .bool false, .bool false, .bool false, .bool false, .bool false, .bool false, .bool false, .bool false, .bool false, .bool false, .bool false, .bool false, .bool false, .bool false, .bool false, .bool false, .bool false, .bool false, .bool false, .bool false, .bool false, .bool false, .bool false, .bool false, .bool false, .bool false, .bool false, .bool false, .bool false, .bool false, .bool false, .bool false, .bool false, .bool false, .bool false, .bool false, .bool false, .bool false, .bool false, .bool false, .bool false, .bool false, .bool false, .bool false, .bool false, .bool false, .bool false, .bool false, .bool false, .bool false, .bool false, .bool false, .bool false, .bool false, .bool false, .bool false, .bool false, .bool false, .bool false, .bool false, .bool false, .bool false, .bool false, .bool false, .bool false, .bool false, .bool false, .bool false, .bool false, .bool false, .bool false, .bool false, .bool false, .bool false, .bool false, .bool false, .bool false, .bool false, .bool false, .bool false, .bool false, .bool false, .bool false, .bool false, .bool false, .bool false, .bool false, .bool false, .bool false, .bool false, .bool false, .bool false, .bool false, .bool false, .bool false, .bool false, .bool false, .bool false, .bool false, .bool false, .bool false, .bool false, .bool false, .bool false, .bool false, .bool false, .bool false, .bool false, .bool false, .bool false, .bool false, .bool false, .bool false, .bool false, .bool false, .bool false, .bool false, .bool false, .bool false, .bool false, .bool false, .bool false, .bool false, .bool false, .bool false, .bool false, .bool false, .bool false, .bool false, .bool false, .bool false, .bool false, .bool false, .bool false, .bool false, .bool false, .bool false, .bool false, .bool false, .bool false, .bool false, .bool false, .bool false, .bool false, .bool false, .bool false, .bool false, .bool false, .bool false, .bool false, .bool false, .bool false, .bool false, .bool false, .bool false, .bool false, .bool false, .bool false, .bool false, .bool false, .bool false, .bool false, .bool false, .bool false, .bool false, .bool false, .bool false, .bool false, .bool false, .bool false, .bool false, .bool false, .bool false, .bool false, .bool false, .bool false, .bool false, .bool false, .bool false, .bool false, .bool false, .bool false, .bool false, .bool false, .bool false, .bool false, .bool false, .bool false, .bool false, .bool false, .bool false, .bool false, .bool false, .bool false, .bool false, .bool false, .bool false, .bool false, .bool false, .bool false], agg := true, eq := true, fields := [] } := by kernel_rfl
-- type 111 left out
-- type 112 left out
@[simp] theorem ti113 : cfg.ti 113 = some { desc := .pointer 109, size := 1, bytes := 8, zero := some [.nilp], agg := false, eq := true, fields := [] } := by kernel_rfl
-- type 114 left out
-- type 115 left out
-- type 116 left out
-- type 117 left out
-- type 118 left out
-- type 119 left out
-- type 120 left out
@[simp] theorem ti121 : cfg.ti 121 = some { desc := .map 9 3, size := 1, bytes := 8, zero := some [.unk], agg := false, eq := true, fields := [] } := by kernel_rfl
-- type 122 left out
-- type 123 left out
-- type 124 left out
-- type 125 left out
@[simp] theorem ti126 : cfg.ti 126 = some { desc := .int .u64, size := 1, bytes := 8, zero := some [.int .u64 0], agg := false, eq := true, fields := [] } := by kernel_rfl
-- type 127 left out
-- type 129 left out
-- type 130 left out
-- type 131 left out
-- type 133 left out
-- type 134 left out
-- type 135 left out
-- type 136 left out
-- type 140 left out
@[simp] theorem ti141 : cfg.ti 141 = some { desc := .pointer 163, size := 1, bytes := 8, zero := some [.nilp], agg := false, eq := true, fields := [] } := by kernel_rfl
@[simp] theorem ti142 : cfg.ti 142 = some { desc := .pointer 5, size := 1, bytes := 8, zero := some [.nilp], agg := false, eq := true, fields := [] } := by kernel_rfl
-- type 144 left out
-- type 145 left out
-- type 147 left out
-- type 148 left out
-- type 149 left out
@[simp] theorem ti150 : cfg.ti 150 = some { desc := .int .i64, size := 1, bytes := 8, zero := some [.int .i64 0], agg := false, eq := true, fields := [] } := by kernel_rfl
-- type 152 left out
-- type 153 left out
-- type 154 left out
-- type 155 left out
-- type 156 left out
-- type 157 left out
@[simp] theorem ti158 : cfg.ti 158 = some { desc := .int .u64, size := 1, bytes := 8, zero := some [.int .u64 0], agg := false, eq := true, fields := [] } := by kernel_rfl
@[simp] theorem ti159 : cfg.ti 159 = some { desc := .slice 86, size := 1, bytes := 24, zero := some [.lst (some true) 0 []], agg := false, eq := true, fields := [] } := by kernel_rfl
@[simp] theorem ti160 : cfg.ti 160 = some { desc := .slice 166, size := 1, bytes := 24, zero := some [.lst (some true) 0 []], agg := false, eq := true, fields := [] } := by kernel_rfl
-- type 167 left out
@[simp] theorem ti169 : cfg.ti 169 = some { desc := .struct (fieldsAt Tryz.prog 169), size := 3, bytes := 12, zero := some [.int .u32 0, .int .u32 0, .int .u32 0], agg := true, eq := true, fields := [(62, 0, 1), (62, 1, 1), (62, 2, 1)] } := by kernel_rfl
-- type 170 left out
@[simp] theorem ti171 : cfg.ti 171 = some { desc := .unsafePointer, size := 1, bytes := 8, zero := some [.nilp], agg := false, eq := true, fields := [] } := by kernel_rfl
-- type 172 left out
-- type 173 left out
-- type 175 left out
-- type 177 left out
-- type 178 left out
@[simp] theorem ti179 : cfg.ti 179 = some { desc := .int .u64, size := 1, bytes := 8, zero := some [.int .u64 0], agg := false, eq := true, fields := [] } := by kernel_rfl
-- type 180 left out
-- type 181 left out
-- type 182 left out
@[simp] theorem ti183 : cfg.ti 183 = some { desc := .pointer 3, size := 1, bytes := 8, zero := some [.nilp], agg := false, eq := true, fields := [] } := by kernel_rfl
-- type 184 left out
-- type 185 left out
-- type 186 left out
-- type 187 left out
-- type 188 left out
-- type 189 left out
@[simp] theorem ti190 : cfg.ti 190 = some { desc := .pointer 166, size := 1, bytes := 8, zero := some [.nilp], agg := false, eq := true, fields := [] } := by kernel_rfl
-- type 196 left out
-- type 198 left out
-- type 201 left out
-- type 202 left out
-- type 203 left out
-- type 206 left out
-- type 207 left out
-- type 210 left out
-- type 218 left out
theorem fn2 : cfg.fn.get none 2 = some Tryz.f2 := by kernel_rfl
theorem fn10 : cfg.fn.get none 10 = some Tryz.f10 := by kernel_rfl
theorem fn11 : cfg.fn.get none 11 = some Tryz.f11 := by kernel_rfl
theorem fn12 : cfg.fn.get none 12 = some Tryz.f12 := by kernel_rfl
theorem fn13 : cfg.fn.get none 13 = some Tryz.f13 := by kernel_rfl
theorem fn15 : cfg.fn.get none 15 = some Tryz.f15 := by kernel_rfl
theorem fn17 : cfg.fn.get none 17 = some Tryz.f17 := by kernel_rfl
theorem fn19 : cfg.fn.get none 19 = some Tryz.f19 := by kernel_rfl
theorem fn21 : cfg.fn.get none 21 = some Tryz.f21 := by kernel_rfl
theorem fn24 : cfg.fn.get none 24 = some Tryz.f24 := by kernel_rfl
theorem fn27 : cfg.fn.get none 27 = some Tryz.f27 := by kernel_rfl
theorem fn29 : cfg.fn.get none 29 = some Tryz.f29 := by kernel_rfl
theorem fn32 : cfg.fn.get none 32 = some Tryz.f32 := by kernel_rfl
theorem fn33 : cfg.fn.get none 33 = some Tryz.f33 := by kernel_rfl
theorem fn35 : cfg.fn.get none 35 = some Tryz.f35 := by kernel_rfl
theorem fn38 : cfg.fn.get none 38 = some Tryz.f38 := by kernel_rfl
theorem fn45 : cfg.fn.get none 45 = some Tryz.f45 := by kernel_rfl
theorem fn46 : cfg.fn.get none 46 = some Tryz.f46 := by kernel_rfl
theorem fn47 : cfg.fn.get none 47 = some Tryz.f47 := by kernel_rfl
theorem fn48 : cfg.fn.get none 48 = some Tryz.f48 := by kernel_rfl
theorem fn49 : cfg.fn.get none 49 = some Tryz.f49 := by kernel_rfl
theorem fn50 : cfg.fn.get none 50 = some Tryz.f50 := by kernel_rfl
theorem fn53 : cfg.fn.get none 53 = some Tryz.f53 := by kernel_rfl
theorem fn54 : cfg.fn.get none 54 = some Tryz.f54 := by kernel_rfl
theorem fn56 : cfg.fn.get none 56 = some Tryz.f56 := by kernel_rfl
theorem fn57 : cfg.fn.get none 57 = some Tryz.f57 := by kernel_rfl
theorem fn58 : cfg.fn.get none 58 = some Tryz.f58 := by kernel_rfl
theorem fn59 : cfg.fn.get none 59 = some Tryz.f59 := by kernel_rfl
theorem fn62 : cfg.fn.get none 62 = some Tryz.f62 := by kernel_rfl
theorem fn63 : cfg.fn.get none 63 = some Tryz.f63 := by kernel_rfl
theorem fn64 : cfg.fn.get none 64 = some Tryz.f64 := by kernel_rfl
theorem fn69 : cfg.fn.get none 69 = some Tryz.f69 := by kernel_rfl
theorem fn70 : cfg.fn.get none 70 = some Tryz.f70 := by kernel_rfl
theorem fn71 : cfg.fn.get none 71 = some Tryz.f71 := by kernel_rfl
theorem fn72 : cfg.fn.get none 72 = some Tryz.f72 := by kernel_rfl
theorem fn75 : cfg.fn.get none 75 = some Tryz.f75 := by kernel_rfl
theorem fn77 : cfg.fn.get none 77 = some Tryz.f77 := by kernel_rfl
theorem fn78 : cfg.fn.get none 78 = some Tryz.f78 := by kernel_rfl
theorem fn79 : cfg.fn.get none 79 = some Tryz.f79 := by kernel_rfl
theorem fn80 : cfg.fn.get none 80 = some Tryz.f80 := by kernel_rfl
theorem fn83 : cfg.fn.get none 83 = some Tryz.f83 := by kernel_rfl
theorem fn96 : cfg.fn.get none 96 = some Tryz.f96 := by kernel_rfl
theorem fn97 : cfg.fn.get none 97 = some Tryz.f97 := by kernel_rfl
theorem fn98 : cfg.fn.get none 98 = some Tryz.f98 := by kernel_rfl
theorem fn99 : cfg.fn.get none 99 = some Tryz.f99 := by kernel_rfl
theorem fn100 : cfg.fn.get none 100 = some Tryz.f100 := by kernel_rfl
theorem fn101 : cfg.fn.get none 101 = some Tryz.f101 := by kernel_rfl
theorem fn103 : cfg.fn.get none 103 = some Tryz.f103 := by kernel_rfl
theorem fn104 : cfg.fn.get none 104 = some Tryz.f104 := by kernel_rfl
theorem fn106 : cfg.fn.get none 106 = some Tryz.f106 := by kernel_rfl
theorem fn107 : cfg.fn.get none 107 = some Tryz.f107 := by kernel_rfl
theorem fn108 : cfg.fn.get none 108 = some Tryz.f108 := by kernel_rfl
theorem fn109 : cfg.fn.get none 109 = some Tryz.f109 := by kernel_rfl
theorem fn114 : cfg.fn.get none 114 = some Tryz.f114 := by kernel_rfl
theorem fn115 : cfg.fn.get none 115 = some Tryz.f115 := by kernel_rfl
theorem fn116 : cfg.fn.get none 116 = some Tryz.f116 := by kernel_rfl
theorem fn117 : cfg.fn.get none 117 = some Tryz.f117 := by kernel_rfl
theorem fn120 : cfg.fn.get none 120 = some Tryz.f120 := by kernel_rfl
theorem fn121 : cfg.fn.get none 121 = some Tryz.f121 := by kernel_rfl
theorem fn122 : cfg.fn.get none 122 = some Tryz.f122 := by kernel_rfl
theorem fn123 : cfg.fn.get none 123 = some Tryz.f123 := by kernel_rfl
theorem fn124 : cfg.fn.get none 124 = some Tryz.f124 := by kernel_rfl
theorem fn125 : cfg.fn.get none 125 = some Tryz.f125 := by kernel_rfl
theorem fn134 : cfg.fn.get none 134 = some Tryz.f134 := by kernel_rfl
theorem fn135 : cfg.fn.get none 135 = some Tryz.f135 := by kernel_rfl
theorem fn141 : cfg.fn.get none 141 = some Tryz.f141 := by kernel_rfl
theorem fn143 : cfg.fn.get none 143 = some Tryz.f143 := by kernel_rfl
theorem fn152 : cfg.fn.get none 152 = some Tryz.f152 := by kernel_rfl
theorem fn154 : cfg.fn.get none 154 = some Tryz.f154 := by kernel_rfl
theorem fn156 : cfg.fn.get none 156 = some Tryz.f156 := by kernel_rfl
theorem fn157 : cfg.fn.get none 157 = some Tryz.f157 := by kernel_rfl
theorem fn176 : cfg.fn.get none 176 = some Tryz.f176 := by kernel_rfl
theorem fn177 : cfg.fn.get none 177 = some Tryz.f177 := by kernel_rfl
theorem fn178 : cfg.fn.get none 178 = some Tryz.f178 := by kernel_rfl
theorem fn179 : cfg.fn.get none 179 = some Tryz.f179 := by kernel_rfl
theorem fn180 : cfg.fn.get none 180 = some Tryz.f180 := by kernel_rfl
theorem fn181 : cfg.fn.get none 181 = some Tryz.f181 := by kernel_rfl
theorem fn189 : cfg.fn.get none 189 = some Tryz.f189 := by kernel_rfl
theorem fn190 : cfg.fn.get none 190 = some Tryz.f190 := by kernel_rfl
theorem fn196 : cfg.fn.get none 196 = some Tryz.f196 := by kernel_rfl
theorem fn197 : cfg.fn.get none 197 = some Tryz.f197 := by kernel_rfl
theorem fn200 : cfg.fn.get none 200 = some Tryz.f200 := by kernel_rfl
theorem fn201 : cfg.fn.get none 201 = some Tryz.f201 := by kernel_rfl
end Go.Proofs.YtlolhkjjbgpfbaaGreatDoor
