/-
  What the machine's tables hold: types and functions of this program (written by tables.py).
-/
import Derived.Test.YtfhfnehoaiegcaaGreatDoorAmIr9
import Derived.Test.YtfhfnehoaiegcaaGreatDoorSeat
set_option linter.all false
namespace Go.Proofs.YtfhfnehoaiegcaaGreatDoor
open Go.Am
@[simp] theorem cfg_ext (f : FuncId) : cfg.ext f = exts f := rfl
@[simp] theorem cfg_ov (f : FuncId) : cfg.ov f = ovs f := rfl
@[simp] theorem cfg_ovb (f : FuncId) : cfg.ovb f = none := rfl
@[simp] theorem cfg_own (f : FuncId) : cfg.own f = owns f := rfl
attribute [simp] exts ovs owns
-- type 0 left out
-- type 1 left out
@[simp] theorem ti2 : cfg.ti 2 = some { desc := .int .i64, size := 1, bytes := 8, zero := some [.int .i64 0], agg := false, eq := true, fields := [] } := by kernel_rfl
@[simp] theorem ti3 : cfg.ti 3 = some { desc := .int .i64, size := 1, bytes := 8, zero := some [.int .i64 0], agg := false, eq := true, fields := [] } := by kernel_rfl
@[simp] theorem ti4 : cfg.ti 4 = some { desc := .bool, size := 1, bytes := 1, zero := some [.bool false], agg := false, eq := true, fields := [] } := by kernel_rfl
@[simp] theorem ti5 : cfg.ti 5 = some { desc := .int .u8, size := 1, bytes := 1, zero := some [.int .u8 0], agg := false, eq := true, fields := [] } := by kernel_rfl
@[simp] theorem ti6 : cfg.ti 6 = some { desc := .int .u8, size := 1, bytes := 1, zero := some [.int .u8 0], agg := false, eq := true, fields := [] } := by kernel_rfl
@[simp] theorem ti7 : cfg.ti 7 = some { desc := .struct (fieldsAt Tryz.prog 7), size := 4, bytes := 24, zero := some [.int .i64 0, .int .i64 0, .bool false, .int .u8 0], agg := true, eq := true, fields := [(2, 0, 1), (3, 1, 1), (4, 2, 1), (6, 3, 1)] } := by kernel_rfl
@[simp] theorem ti8 : cfg.ti 8 = some { desc := .struct (fieldsAt Tryz.prog 8), size := 4, bytes := 24, zero := some [.int .i64 0, .int .i64 0, .bool false, .int .u8 0], agg := true, eq := true, fields := [(2, 0, 1), (3, 1, 1), (4, 2, 1), (6, 3, 1)] } := by kernel_rfl
@[simp] theorem ti9 : cfg.ti 9 = some { desc := .string, size := 1, bytes := 16, zero := some [.str []], agg := false, eq := true, fields := [] } := by kernel_rfl
@[simp] theorem ti10 : cfg.ti 10 = some { desc := .string, size := 1, bytes := 16, zero := some [.str []], agg := false, eq := true, fields := [] } := by kernel_rfl
@[simp] theorem ti11 : cfg.ti 11 = some { desc := .string, size := 1, bytes := 16, zero := some [.str []], agg := false, eq := true, fields := [] } := by kernel_rfl
@[simp] theorem ti12 : cfg.ti 12 = some { desc := .int .u64, size := 1, bytes := 8, zero := some [.int .u64 0], agg := false, eq := true, fields := [] } := by kernel_rfl
@[simp] theorem ti13 : cfg.ti 13 = some { desc := .struct (fieldsAt Tryz.prog 13), size := 2, bytes := 24, zero := some [.str [], .int .u64 0], agg := true, eq := false, fields := [(9, 0, 1), (12, 1, 1)] } := by kernel_rfl
@[simp] theorem ti14 : cfg.ti 14 = some { desc := .struct (fieldsAt Tryz.prog 14), size := 2, bytes := 24, zero := some [.str [], .int .u64 0], agg := true, eq := false, fields := [(9, 0, 1), (12, 1, 1)] } := by kernel_rfl
@[simp] theorem ti15 : cfg.ti 15 = some { desc := .pointer 184, size := 1, bytes := 8, zero := some [.nilp], agg := false, eq := true, fields := [] } := by kernel_rfl
@[simp] theorem ti16 : cfg.ti 16 = some { desc := .pointer 187, size := 1, bytes := 8, zero := some [.nilp], agg := false, eq := true, fields := [] } := by kernel_rfl
@[simp] theorem ti17 : cfg.ti 17 = some { desc := .pointer 194, size := 1, bytes := 8, zero := some [.nilp], agg := false, eq := true, fields := [] } := by kernel_rfl
@[simp] theorem ti18 : cfg.ti 18 = some { desc := .struct (fieldsAt Tryz.prog 18), size := 1, bytes := 8, zero := some [.nilp], agg := true, eq := false, fields := [(17, 0, 1)] } := by kernel_rfl
@[simp] theorem ti19 : cfg.ti 19 = some { desc := .struct (fieldsAt Tryz.prog 19), size := 1, bytes := 8, zero := some [.nilp], agg := true, eq := false, fields := [(17, 0, 1)] } := by kernel_rfl
@[simp] theorem ti20 : cfg.ti 20 = some { desc := .interface (match Tryz.prog.underlying 20 with | some (.interface ms) => ms | _ => #[]), size := 1, bytes := 16, zero := some [.ifc false], agg := false, eq := true, fields := [] } := by kernel_rfl
@[simp] theorem ti21 : cfg.ti 21 = some { desc := .int .i32, size := 1, bytes := 4, zero := some [.int .i32 0], agg := false, eq := true, fields := [] } := by kernel_rfl
@[simp] theorem ti22 : cfg.ti 22 = some { desc := .slice 3, size := 1, bytes := 24, zero := some [.lst (some true) 0 []], agg := false, eq := true, fields := [] } := by kernel_rfl
@[simp] theorem ti23 : cfg.ti 23 = some { desc := .slice 9, size := 1, bytes := 24, zero := some [.lst (some true) 0 []], agg := false, eq := true, fields := [] } := by kernel_rfl
@[simp] theorem ti24 : cfg.ti 24 = some { desc := .struct (fieldsAt Tryz.prog 24), size := 5, bytes := 72, zero := some [.int .i64 0, .int .i64 0, .int .i64 0, .lst (some true) 0 [], .lst (some true) 0 []], agg := true, eq := true, fields := [(3, 0, 1), (3, 1, 1), (3, 2, 1), (22, 3, 1), (23, 4, 1)] } := by kernel_rfl
@[simp] theorem ti25 : cfg.ti 25 = some { desc := .struct (fieldsAt Tryz.prog 25), size := 5, bytes := 72, zero := some [.int .i64 0, .int .i64 0, .int .i64 0, .lst (some true) 0 [], .lst (some true) 0 []], agg := true, eq := true, fields := [(3, 0, 1), (3, 1, 1), (3, 2, 1), (22, 3, 1), (23, 4, 1)] } := by kernel_rfl
-- type 26 left out
-- type 27 left out
@[simp] theorem ti28 : cfg.ti 28 = some { desc := .int .i64, size := 1, bytes := 8, zero := some [.int .i64 0], agg := false, eq := true, fields := [] } := by kernel_rfl
-- type 29 left out
-- type 30 left out
-- type 31 left out
-- type 32 left out
-- type 33 left out
-- type 34 left out
-- type 35 left out
@[simp] theorem ti36 : cfg.ti 36 = some { desc := .slice 52, size := 1, bytes := 24, zero := some [.lst (some true) 0 []], agg := false, eq := true, fields := [] } := by kernel_rfl
-- type 37 left out
-- type 38 left out
-- type 39 left out
-- type 40 left out
-- type 41 left out
-- type 42 left out
-- type 43 left out
-- type 44 left out
-- type 45 left out
@[simp] theorem ti46 : cfg.ti 46 = some { desc := .slice 25, size := 1, bytes := 24, zero := some [.lst (some true) 0 []], agg := false, eq := true, fields := [] } := by kernel_rfl
-- type 47 left out
-- type 48 left out
-- type 49 left out
-- type 50 left out
@[simp] theorem ti51 : cfg.ti 51 = some { desc := .struct (fieldsAt Tryz.prog 51), size := 6, bytes := 88, zero := some [.int .i64 0, .int .i64 0, .int .i64 0, .lst (some true) 0 [], .lst (some true) 0 [], .str []], agg := true, eq := true, fields := [(25, 0, 5), (9, 5, 1)] } := by kernel_rfl
@[simp] theorem ti52 : cfg.ti 52 = some { desc := .struct (fieldsAt Tryz.prog 52), size := 6, bytes := 88, zero := some [.int .i64 0, .int .i64 0, .int .i64 0, .lst (some true) 0 [], .lst (some true) 0 [], .str []], agg := true, eq := true, fields := [(25, 0, 5), (9, 5, 1)] } := by kernel_rfl
@[simp] theorem ti53 : cfg.ti 53 = some { desc := .int .u16, size := 1, bytes := 2, zero := some [.int .u16 0], agg := false, eq := true, fields := [] } := by kernel_rfl
-- type 54 left out
@[simp] theorem ti55 : cfg.ti 55 = some { desc := .slice 5, size := 1, bytes := 24, zero := some [.lst (some true) 0 []], agg := false, eq := true, fields := [] } := by kernel_rfl
-- type 56 left out
-- type 57 left out
-- type 58 left out
-- type 59 left out
-- type 60 left out
-- type 61 left out
-- type 62 left out
-- type 63 left out
-- type 64 left out
-- type 65 left out
-- type 66 left out
@[simp] theorem ti67 : cfg.ti 67 = some { desc := .pointer 69, size := 1, bytes := 8, zero := some [.nilp], agg := false, eq := true, fields := [] } := by kernel_rfl
@[simp] theorem ti68 : cfg.ti 68 = some { desc := .struct (fieldsAt Tryz.prog 68), size := 2, bytes := 32, zero := some [.nilp, .lst (some true) 0 []], agg := true, eq := true, fields := [(67, 0, 1), (55, 1, 1)] } := by kernel_rfl
@[simp] theorem ti69 : cfg.ti 69 = some { desc := .struct (fieldsAt Tryz.prog 69), size := 2, bytes := 32, zero := some [.nilp, .lst (some true) 0 []], agg := true, eq := true, fields := [(67, 0, 1), (55, 1, 1)] } := by kernel_rfl
@[simp] theorem ti70 : cfg.ti 70 = some { desc := .interface (match Tryz.prog.underlying 70 with | some (.interface ms) => ms | _ => #[]), size := 1, bytes := 16, zero := some [.ifc false], agg := false, eq := false, fields := [] } := by kernel_rfl
@[simp] theorem ti71 : cfg.ti 71 = some { desc := .interface (match Tryz.prog.underlying 71 with | some (.interface ms) => ms | _ => #[]), size := 1, bytes := 16, zero := some [.ifc false], agg := false, eq := false, fields := [] } := by kernel_rfl
-- type 72 left out
-- type 73 left out
-- type 74 left out
-- type 75 left out
-- type 76 left out
-- type 77 left out
-- type 78 left out
-- type 79 left out
-- type 80 left out
-- type 81 left out
-- type 82 left out
-- type 83 left out
-- type 84 left out
-- type 85 left out
@[simp] theorem ti86 : cfg.ti 86 = some { desc := .int .u64, size := 1, bytes := 8, zero := some [.int .u64 0], agg := false, eq := true, fields := [] } := by kernel_rfl
-- type 87 left out
-- type 88 left out
-- type 89 left out
-- type 90 left out
-- type 91 left out
-- type 92 left out
-- type 93 left out
@[simp] theorem ti94 : cfg.ti 94 = some { desc := .pointer 118, size := 1, bytes := 8, zero := some [.nilp], agg := false, eq := true, fields := [] } := by kernel_rfl
-- type 95 left out
-- type 96 left out
-- type 97 left out
-- type 98 left out
-- type 99 left out
-- type 100 left out
-- type 101 left out
@[simp] theorem ti102 : cfg.ti 102 = some { desc := .pointer 104, size := 1, bytes := 8, zero := some [.nilp], agg := false, eq := true, fields := [] } := by kernel_rfl
@[simp] theorem ti103 : cfg.ti 103 = some { desc := .struct (fieldsAt Tryz.prog 103), size := 1, bytes := 24, zero := some [.lst (some true) 0 []], agg := true, eq := true, fields := [(55, 0, 1)] } := by kernel_rfl
@[simp] theorem ti104 : cfg.ti 104 = some { desc := .struct (fieldsAt Tryz.prog 104), size := 1, bytes := 24, zero := some [.lst (some true) 0 []], agg := true, eq := true, fields := [(55, 0, 1)] } := by kernel_rfl
-- type 105 left out
@[simp] theorem ti106 : cfg.ti 106 = some { desc := .pointer 5, size := 1, bytes := 8, zero := some [.nilp], agg := false, eq := true, fields := [] } := by kernel_rfl
-- type 107 left out
-- type 108 left out
-- type 109 left out
-- type 110 left out
-- type 111 left out
-- type 112 left out
-- type 113 left out
-- type 114 left out
@[simp] theorem ti115 : cfg.ti 115 = some { desc := .int .u64, size := 1, bytes := 8, zero := some [.int .u64 0], agg := false, eq := true, fields := [] } := by kernel_rfl
@[simp] theorem ti116 : cfg.ti 116 = some { desc := .array 25 115, size := 25, bytes := 200, zero := some [.int .u64 0, .int .u64 0, .int .u64 0, .int .u64 0, .int .u64 0, .int .u64 0, .int .u64 0, .int .u64 0, .int .u64 0, .int .u64 0, .int .u64 0, .int .u64 0, .int .u64 0, .int .u64 0, .int .u64 0, .int .u64 0, .int .u64 0, .int .u64 0, .int .u64 0, .int .u64 0, .int .u64 0, .int .u64 0, .int .u64 0, .int .u64 0, .int .u64 0], agg := true, eq := true, fields := [] } := by kernel_rfl
@[simp] theorem ti117 : cfg.ti 117 = some { desc := .struct (fieldsAt Tryz.prog 117), size := 27, bytes := 224, zero := some [.int .u64 0, .int .u64 0, .int .u64 0, .int .u64 0, .int .u64 0, .int .u64 0, .int .u64 0, .int .u64 0, .int .u64 0, .int .u64 0, .int .u64 0, .int .u64 0, .int .u64 0, .int .u64 0, .int .u64 0, .int .u64 0, .int .u64 0, .int .u64 0, .int .u64 0, .int .u64 0, .int .u64 0, .int .u64 0, .int .u64 0, .int .u64 0, .int .u64 0, .str [], .int .i64 0], agg := true, eq := true, fields := [(116, 0, 25), (9, 25, 1), (3, 26, 1)] } := by kernel_rfl
@[simp] theorem ti118 : cfg.ti 118 = some { desc := .struct (fieldsAt Tryz.prog 118), size := 27, bytes := 224, zero := some [.int .u64 0, .int .u64 0, .int .u64 0, .int .u64 0, .int .u64 0, .int .u64 0, .int .u64 0, .int .u64 0, .int .u64 0, .int .u64 0, .int .u64 0, .int .u64 0, .int .u64 0, .int .u64 0, .int .u64 0, .int .u64 0, .int .u64 0, .int .u64 0, .int .u64 0, .int .u64 0, .int .u64 0, .int .u64 0, .int .u64 0, .int .u64 0, .int .u64 0, .str [], .int .i64 0], agg := true, eq := true, fields := [(116, 0, 25), (9, 25, 1), (3, 26, 1)] } := by kernel_rfl
-- type 119 left out
-- type 120 left out
-- type 121 left out
-- type 122 left out
-- type 123 left out
@[simp] theorem ti124 : cfg.ti 124 = some { desc := .unsafePointer, size := 1, bytes := 8, zero := some [.nilp], agg := false, eq := true, fields := [] } := by kernel_rfl
-- type 125 left out
-- type 126 left out
-- type 127 left out
-- type 128 left out
-- type 129 left out
@[simp] theorem ti130 : cfg.ti 130 = some { desc := .int .i64, size := 1, bytes := 8, zero := some [.int .i64 0], agg := false, eq := true, fields := [] } := by kernel_rfl
-- type 131 left out
-- type 132 left out
@[simp] theorem ti133 : cfg.ti 133 = some { desc := .pointer 156, size := 1, bytes := 8, zero := some [.nilp], agg := false, eq := true, fields := [] } := by kernel_rfl
-- type 134 left out
-- type 135 left out
-- type 136 left out
-- type 137 left out
-- type 138 left out
@[simp] theorem ti139 : cfg.ti 139 = some { desc := .array 24 115, size := 24, bytes := 192, zero := some [.int .u64 0, .int .u64 0, .int .u64 0, .int .u64 0, .int .u64 0, .int .u64 0, .int .u64 0, .int .u64 0, .int .u64 0, .int .u64 0, .int .u64 0, .int .u64 0, .int .u64 0, .int .u64 0, .int .u64 0, .int .u64 0, .int .u64 0, .int .u64 0, .int .u64 0, .int .u64 0, .int .u64 0, .int .u64 0, .int .u64 0, .int .u64 0], agg := true, eq := true, fields := [] } := by kernel_rfl
-- type 140 left out
@[simp] theorem ti141 : cfg.ti 141 = some { desc := .array 25 3, size := 25, bytes := 200, zero := some [.int .i64 0, .int .i64 0, .int .i64 0, .int .i64 0, .int .i64 0, .int .i64 0, .int .i64 0, .int .i64 0, .int .i64 0, .int .i64 0, .int .i64 0, .int .i64 0, .int .i64 0, .int .i64 0, .int .i64 0, .int .i64 0, .int .i64 0, .int .i64 0, .int .i64 0, .int .i64 0, .int .i64 0, .int .i64 0, .int .i64 0, .int .i64 0, .int .i64 0], agg := true, eq := true, fields := [] } := by kernel_rfl
-- type 142 left out
-- type 143 left out
@[simp] theorem ti144 : cfg.ti 144 = some { desc := .array 24 5, size := 24, bytes := 24, zero := some [.int .u8 0, .int .u8 0, .int .u8 0, .int .u8 0, .int .u8 0, .int .u8 0, .int .u8 0, .int .u8 0, .int .u8 0, .int .u8 0, .int .u8 0, .int .u8 0, .int .u8 0, .int .u8 0, .int .u8 0, .int .u8 0, .int .u8 0, .int .u8 0, .int .u8 0, .int .u8 0, .int .u8 0, .int .u8 0, .int .u8 0, .int .u8 0], agg := true, eq := true, fields := [] } := by kernel_rfl
-- type 145 left out
-- type 146 left out
-- type 147 left out
-- type 148 left out
-- type 149 left out
-- type 150 left out
-- type 151 left out
-- type 152 left out
-- type 153 left out
-- type 154 left out
@[simp] theorem ti155 : cfg.ti 155 = some { desc := .struct (fieldsAt Tryz.prog 155), size := 3, bytes := 48, zero := some [.str [], .str [], .ifc false], agg := true, eq := false, fields := [(9, 0, 1), (9, 1, 1), (71, 2, 1)] } := by kernel_rfl
@[simp] theorem ti156 : cfg.ti 156 = some { desc := .struct (fieldsAt Tryz.prog 156), size := 3, bytes := 48, zero := some [.str [], .str [], .ifc false], agg := true, eq := false, fields := [(9, 0, 1), (9, 1, 1), (71, 2, 1)] } := by kernel_rfl
-- type 157 left out
-- type 158 left out
@[simp] theorem ti159 : cfg.ti 159 = some { desc := .int .u32, size := 1, bytes := 4, zero := some [.int .u32 0], agg := false, eq := true, fields := [] } := by kernel_rfl
-- type 160 left out
-- type 161 left out
-- type 162 left out
-- type 163 left out
@[simp] theorem ti164 : cfg.ti 164 = some { desc := .array 5 115, size := 5, bytes := 40, zero := some [.int .u64 0, .int .u64 0, .int .u64 0, .int .u64 0, .int .u64 0], agg := true, eq := true, fields := [] } := by kernel_rfl
-- type 165 left out
-- type 166 left out
-- type 167 left out
-- type 168 left out
@[simp] theorem ti169 : cfg.ti 169 = some { desc := .array 20 115, size := 20, bytes := 160, zero := some [.int .u64 0, .int .u64 0, .int .u64 0, .int .u64 0, .int .u64 0, .int .u64 0, .int .u64 0, .int .u64 0, .int .u64 0, .int .u64 0, .int .u64 0, .int .u64 0, .int .u64 0, .int .u64 0, .int .u64 0, .int .u64 0, .int .u64 0, .int .u64 0, .int .u64 0, .int .u64 0], agg := true, eq := true, fields := [] } := by kernel_rfl
@[simp] theorem ti170 : cfg.ti 170 = some { desc := .array 65 5, size := 65, bytes := 65, zero := some [.int .u8 0, .int .u8 0, .int .u8 0, .int .u8 0, .int .u8 0, .int .u8 0, .int .u8 0, .int .u8 0, .int .u8 0, .int .u8 0, .int .u8 0, .int .u8 0, .int .u8 0, .int .u8 0, .int .u8 0, .int .u8 0, .int .u8 0, .int .u8 0, .int .u8 0, .int .u8 0, .int .u8 0, .int .u8 0, .int .u8 0, .int .u8 0, .int .u8 0, .int .u8 0, .int .u8 0, .int .u8 0, .int .u8 0, .int .u8 0, .int .u8 0, .int .u8 0, .int .u8 0, .int .u8 0, .int .u8 0, .int .u8 0, .int .u8 0, .int .u8 0, .int .u8 0, .int .u8 0, .int .u8 0, .int .u8 0, .int .u8 0, .int .u8 0, .int .u8 0, .int .u8 0, .int .u8 0, .int .u8 0, .int .u8 0, .int .u8 0, .int .u8 0, .int .u8 0, .int .u8 0, .int .u8 0, .int .u8 0, .int .u8 0, .int .u8 0, .int .u8 0, .int .u8 0, .int .u8 0, .int .u8 0, .int .u8 0, .int .u8 0, .int .u8 0, .int .u8 0], agg := true, eq := true, fields := [] } := by kernel_rfl
-- type 171 left out
@[simp] theorem ti172 : cfg.ti 172 = some { desc := .pointer 174, size := 1, bytes := 8, zero := some [.nilp], agg := false, eq := true, fields := [] } := by kernel_rfl
@[simp] theorem ti173 : cfg.ti 173 = some { desc := .struct (fieldsAt Tryz.prog 173), size := 1, bytes := 16, zero := some [.str []], agg := true, eq := true, fields := [(9, 0, 1)] } := by kernel_rfl
@[simp] theorem ti174 : cfg.ti 174 = some { desc := .struct (fieldsAt Tryz.prog 174), size := 1, bytes := 16, zero := some [.str []], agg := true, eq := true, fields := [(9, 0, 1)] } := by kernel_rfl
-- type 175 left out
@[simp] theorem ti176 : cfg.ti 176 = some { desc := .array 256 5, size := 256, bytes := 256, zero := some [.int .u8 0, .int .u8 0, .int .u8 0, .int .u8 0, .int .u8 0, .int .u8 0, .int .u8 0, .int .u8 0, .int .u8 0, .int .u8 0, .int .u8 0, .int .u8 0, .int .u8 0, .int .u8 0, .int .u8 0, .int .u8 0, .int .u8 0, .int .u8 0, .int .u8 0, .int .u8 0, .int .u8 0, .int .u8 0, .int .u8 0, .int .u8 0, .int .u8 0, .int .u8 0, .int .u8 0, .int .u8 0, .int .u8 0, .int .u8 0, .int .u8 0, .int .u8 0, .int .u8 0, .int .u8 0, .int .u8 0, .int .u8 0, .int .u8 0, .int .u8 0, .int .u8 0, .int .u8 0, .int .u8 0, .int .u8 0, .int .u8 0, .int .u8 0, .int .u8 0, .int .u8 0, .int .u8 0, .int .u8 0, .int .u8 0, .int .u8 0, .int .u8 0, .int .u8 0, .int .u8 0, .int .u8 0, .int .u8 0, .int .u8 0, .int .u8 0, .int .u8 0, .int .u8 0, .int .u8 0, .int .u8 0, .int .u8 0, .int .u8 0, .int .u8 0, .int .u8 0, .int .u8 0, .int .u8 0, .int .u8 0, .int .u8 0, .int .u8 0, .int .u8 0, .int .u8 0, .int .u8 0, .int .u8 0, .int .u8 0, .int .u8 0, .int .u8 0, .int .u8 0, .int .u8 0, .int .u8 0, .int .u8 0, .int .u8 0, .int .u8 0, .int .u8 0, .int .u8 0, .int .u8 0, .int .u8 0, .int .u8 0, .int .u8 0, .int .u8 0, .int .u8 0, .int .u8 0, .int .u8 0, .int .u8 0, .int .u8 0, .int .u8 0, .int .u8 0, .int .u8 0, .int .u8 0, .int .u8 0, .int .u8 0, .int .u8 0, .int .u8 0, .int .u8 0, .int .u8 0, .int .u8 0, .int .u8 0, .int .u8 0, .int .u8 0, .int .u8 0, .int .u8 0, .int .u8 0, .int .u8 0, .int .u8 0, .int .u8 0, .int .u8 0, .int .u8 0, .int .u8 0, .int .u8 0, .int .u8 0, .int .u8 0, .int .u8 0, .int .u8 0, .int .u8 0, .int .u8 0, .int .u8 0, .int .u8 0, .int .u8 0, .int .u8 0, .int .u8 0, .int .u8 0, .int .u8 0, .int .u8 0, .int .u8 0, .int .u8 0, .int .u8 0, .int .u8 0, .int .u8 0, .int .u8 0, .int .u8 0, .int .u8 0, .int .u8 0, .int .u8 0, .int .u8 0, .int .u8 0, .int .u8 0, .int .u8 0, .int .u8 0, .int .u8 0, .int .u8 0, .int .u8 0, .int .u8 0, .int .u8 0, .int .u8 0, .int .u8 0, .int .u8 0, .int .u8 0, .int .u8 0, .int .u8 0, .int .u8 0, .int .u8 0, .int .u8 0, .int .u8 0, .int .u8 0, .int .u8 0, .int .u8 0, .int .u8 0, .int .u8 0, .int .u8 0, .int .u8 0, .int .u8 0, .int .u8 0, .int .u8 0, .int .u8 0, .int .u8 0, .int .u8 0, .int .u8 0, .int .u8 0, .int .u8 0, .int .u8 0, .int .u8 0, .int .u8 0, .int .u8 0, .int .u8 0, .int .u8 0, .int .u8 0, .int .u8 0, .int .u8 0, .int .u8 0, .int .u8 0, .int .u8 0, .int .u8 0, .int .u8 0, .int .u8 0, .int .u8 0, .int .u8 0, .int .u8 0, .int .u8 0, .int .u8 0, .int .u8 0, .int .u8 0, .int .u8 0, .int .u8 0, .int .u8 0, .int .u8 0, .int .u8 0, .int .u8 0, .int .u8 0, .int .u8 0, .int .u8 0, .int .u8 0, .int .u8 0, .int .u8 0, .int .u8 0, .int .u8 0, .int .u8 0, .int .u8 0, .int .u8 0, .int .u8 0, .int .u8 0, .int .u8 0, .int .u8 0, .int .u8 0, .int .u8 0, .int .u8 0, .int .u8 0, .int .u8 0, .int .u8 0, .int .u8 0, .int .u8 0, .int .u8 0, .int .u8 0, .int .u8 0, .int .u8 0, .int .u8 0, .int .u8 0, .int .u8 0, .int .u8 0, .int .u8 0, .int .u8 0, .int .u8 0, .int .u8 0, .int .u8 0, .int .u8 0, .int .u8 0, .int .u8 0, .int .u8 0, .int .u8 0, .int .u8 0, .int .u8 0, .int .u8 0, .int .u8 0, .int .u8 0, .int .u8 0, .int .u8 0, .int .u8 0], agg := true, eq := true, fields := [] } := by kernel_rfl
@[simp] theorem ti177 : cfg.ti 177 = some { desc := .struct (fieldsAt Tryz.prog 177), size := 2, bytes := 2, zero := some [.int .u8 0, .int .u8 0], agg := true, eq := true, fields := [(5, 0, 1), (5, 1, 1)] } := by kernel_rfl
@[simp] theorem ti178 : cfg.ti 178 = some { desc := .struct (fieldsAt Tryz.prog 178), size := 2, bytes := 2, zero := some [.int .u8 0, .int .u8 0], agg := true, eq := true, fields := [(5, 0, 1), (5, 1, 1)] } := by kernel_rfl
@[simp] theorem ti179 : cfg.ti 179 = some { desc := .array 16 178, size := 32, bytes := 32, zero := some [.int .u8 0, .int .u8 0, .int .u8 0, .int .u8 0, .int .u8 0, .int .u8 0, .int .u8 0, .int .u8 0, .int .u8 0, .int .u8 0, .int .u8 0, .int .u8 0, .int .u8 0, .int .u8 0, .int .u8 0, .int .u8 0, .int .u8 0, .int .u8 0, .int .u8 0, .int .u8 0, .int .u8 0, .int .u8 0, .int .u8 0, .int .u8 0, .int .u8 0, .int .u8 0, .int .u8 0, .int .u8 0, .int .u8 0, .int .u8 0, .int .u8 0, .int .u8 0], agg := true, eq := true, fields := [] } := by kernel_rfl
-- type 180 left out
@[simp] theorem ti181 : cfg.ti 181 = some { desc := .array 32 5, size := 32, bytes := 32, zero := some [.int .u8 0, .int .u8 0, .int .u8 0, .int .u8 0, .int .u8 0, .int .u8 0, .int .u8 0, .int .u8 0, .int .u8 0, .int .u8 0, .int .u8 0, .int .u8 0, .int .u8 0, .int .u8 0, .int .u8 0, .int .u8 0, .int .u8 0, .int .u8 0, .int .u8 0, .int .u8 0, .int .u8 0, .int .u8 0, .int .u8 0, .int .u8 0, .int .u8 0, .int .u8 0, .int .u8 0, .int .u8 0, .int .u8 0, .int .u8 0, .int .u8 0, .int .u8 0], agg := true, eq := true, fields := [] } := by kernel_rfl
@[simp] theorem ti182 : cfg.ti 182 = some { desc := .array 64 5, size := 64, bytes := 64, zero := some [.int .u8 0, .int .u8 0, .int .u8 0, .int .u8 0, .int .u8 0, .int .u8 0, .int .u8 0, .int .u8 0, .int .u8 0, .int .u8 0, .int .u8 0, .int .u8 0, .int .u8 0, .int .u8 0, .int .u8 0, .int .u8 0, .int .u8 0, .int .u8 0, .int .u8 0, .int .u8 0, .int .u8 0, .int .u8 0, .int .u8 0, .int .u8 0, .int .u8 0, .int .u8 0, .int .u8 0, .int .u8 0, .int .u8 0, .int .u8 0, .int .u8 0, .int .u8 0, .int .u8 0, .int .u8 0, .int .u8 0, .int .u8 0, .int .u8 0, .int .u8 0, .int .u8 0, .int .u8 0, .int .u8 0, .int .u8 0, .int .u8 0, .int .u8 0, .int .u8 0, .int .u8 0, .int .u8 0, .int .u8 0, .int .u8 0, .int .u8 0, .int .u8 0, .int .u8 0, .int .u8 0, .int .u8 0, .int .u8 0, .int .u8 0, .int .u8 0, .int .u8 0, .int .u8 0, .int .u8 0, .int .u8 0, .int .u8 0, .int .u8 0, .int .u8 0], agg := true, eq := true, fields := [] } := by kernel_rfl
@[simp] theorem ti183 : cfg.ti 183 = some { desc := .struct (fieldsAt Tryz.prog 183), size := 4, bytes := 40, zero := some [.nilp, .nilp, .nilp, .str []], agg := true, eq := false, fields := [(17, 0, 1), (17, 1, 1), (17, 2, 1), (9, 3, 1)] } := by kernel_rfl
@[simp] theorem ti184 : cfg.ti 184 = some { desc := .struct (fieldsAt Tryz.prog 184), size := 4, bytes := 40, zero := some [.nilp, .nilp, .nilp, .str []], agg := true, eq := false, fields := [(17, 0, 1), (17, 1, 1), (17, 2, 1), (9, 3, 1)] } := by kernel_rfl
@[simp] theorem ti185 : cfg.ti 185 = some { desc := .array 0 16, size := 0, bytes := 0, zero := some [], agg := true, eq := true, fields := [] } := by kernel_rfl
@[simp] theorem ti186 : cfg.ti 186 = some { desc := .struct (fieldsAt Tryz.prog 186), size := 0, bytes := 0, zero := some [], agg := true, eq := false, fields := [(185, 0, 0)] } := by kernel_rfl
@[simp] theorem ti187 : cfg.ti 187 = some { desc := .struct (fieldsAt Tryz.prog 187), size := 0, bytes := 0, zero := some [], agg := true, eq := false, fields := [(185, 0, 0)] } := by kernel_rfl
@[simp] theorem ti188 : cfg.ti 188 = some { desc := .int .u8, size := 1, bytes := 1, zero := some [.int .u8 0], agg := false, eq := true, fields := [] } := by kernel_rfl
@[simp] theorem ti189 : cfg.ti 189 = some { desc := .int .u8, size := 1, bytes := 1, zero := some [.int .u8 0], agg := false, eq := true, fields := [] } := by kernel_rfl
-- type 190 left out
@[simp] theorem ti191 : cfg.ti 191 = some { desc := .int .i32, size := 1, bytes := 4, zero := some [.int .i32 0], agg := false, eq := true, fields := [] } := by kernel_rfl
@[simp] theorem ti192 : cfg.ti 192 = some { desc := .int .i32, size := 1, bytes := 4, zero := some [.int .i32 0], agg := false, eq := true, fields := [] } := by kernel_rfl
@[simp] theorem ti193 : cfg.ti 193 = some { desc := .struct (fieldsAt Tryz.prog 193), size := 11, bytes := 48, zero := some [.int .u64 0, .int .u64 0, .int .u32 0, .int .u8 0, .int .u8 0, .int .u8 0, .int .u8 0, .nilf, .nilp, .int .i32 0, .int .i32 0], agg := true, eq := false, fields := [(12, 0, 1), (12, 1, 1), (159, 2, 1), (188, 3, 1), (5, 4, 1), (5, 5, 1), (189, 6, 1), (190, 7, 1), (106, 8, 1), (191, 9, 1), (192, 10, 1)] } := by kernel_rfl
@[simp] theorem ti194 : cfg.ti 194 = some { desc := .struct (fieldsAt Tryz.prog 194), size := 11, bytes := 48, zero := some [.int .u64 0, .int .u64 0, .int .u32 0, .int .u8 0, .int .u8 0, .int .u8 0, .int .u8 0, .nilf, .nilp, .int .i32 0, .int .i32 0], agg := true, eq := false, fields := [(12, 0, 1), (12, 1, 1), (159, 2, 1), (188, 3, 1), (5, 4, 1), (5, 5, 1), (189, 6, 1), (190, 7, 1), (106, 8, 1), (191, 9, 1), (192, 10, 1)] } := by kernel_rfl
theorem fn0 : cfg.fn.get none 0 = some Tryz.f0 := by kernel_rfl
theorem fn1 : cfg.fn.get none 1 = some Tryz.f1 := by kernel_rfl
theorem fn2 : cfg.fn.get none 2 = some Tryz.f2 := by kernel_rfl
theorem fn3 : cfg.fn.get none 3 = some Tryz.f3 := by kernel_rfl
theorem fn4 : cfg.fn.get none 4 = some Tryz.f4 := by kernel_rfl
theorem fn5 : cfg.fn.get none 5 = some Tryz.f5 := by kernel_rfl
theorem fn6 : cfg.fn.get none 6 = some Tryz.f6 := by kernel_rfl
theorem fn7 : cfg.fn.get none 7 = some Tryz.f7 := by kernel_rfl
theorem fn8 : cfg.fn.get none 8 = some Tryz.f8 := by kernel_rfl
theorem fn9 : cfg.fn.get none 9 = some Tryz.f9 := by kernel_rfl
theorem fn10 : cfg.fn.get none 10 = some Tryz.f10 := by kernel_rfl
theorem fn11 : cfg.fn.get none 11 = some Tryz.f11 := by kernel_rfl
theorem fn12 : cfg.fn.get none 12 = some Tryz.f12 := by kernel_rfl
theorem fn13 : cfg.fn.get none 13 = some Tryz.f13 := by kernel_rfl
theorem fn14 : cfg.fn.get none 14 = some Tryz.f14 := by kernel_rfl
theorem fn15 : cfg.fn.get none 15 = some Tryz.f15 := by kernel_rfl
theorem fn16 : cfg.fn.get none 16 = some Tryz.f16 := by kernel_rfl
theorem fn17 : cfg.fn.get none 17 = some Tryz.f17 := by kernel_rfl
theorem fn18 : cfg.fn.get none 18 = some Tryz.f18 := by kernel_rfl
theorem fn19 : cfg.fn.get none 19 = some Tryz.f19 := by kernel_rfl
theorem fn20 : cfg.fn.get none 20 = some Tryz.f20 := by kernel_rfl
theorem fn21 : cfg.fn.get none 21 = some Tryz.f21 := by kernel_rfl
theorem fn22 : cfg.fn.get none 22 = some Tryz.f22 := by kernel_rfl
theorem fn23 : cfg.fn.get none 23 = some Tryz.f23 := by kernel_rfl
theorem fn24 : cfg.fn.get none 24 = some Tryz.f24 := by kernel_rfl
theorem fn25 : cfg.fn.get none 25 = some Tryz.f25 := by kernel_rfl
theorem fn26 : cfg.fn.get none 26 = some Tryz.f26 := by kernel_rfl
theorem fn27 : cfg.fn.get none 27 = some Tryz.f27 := by kernel_rfl
theorem fn28 : cfg.fn.get none 28 = some Tryz.f28 := by kernel_rfl
theorem fn29 : cfg.fn.get none 29 = some Tryz.f29 := by kernel_rfl
theorem fn30 : cfg.fn.get none 30 = some Tryz.f30 := by kernel_rfl
theorem fn31 : cfg.fn.get none 31 = some Tryz.f31 := by kernel_rfl
theorem fn32 : cfg.fn.get none 32 = some Tryz.f32 := by kernel_rfl
theorem fn33 : cfg.fn.get none 33 = some Tryz.f33 := by kernel_rfl
theorem fn34 : cfg.fn.get none 34 = some Tryz.f34 := by kernel_rfl
theorem fn35 : cfg.fn.get none 35 = some Tryz.f35 := by kernel_rfl
theorem fn36 : cfg.fn.get none 36 = some Tryz.f36 := by kernel_rfl
theorem fn37 : cfg.fn.get none 37 = some Tryz.f37 := by kernel_rfl
theorem fn38 : cfg.fn.get none 38 = some Tryz.f38 := by kernel_rfl
theorem fn39 : cfg.fn.get none 39 = some Tryz.f39 := by kernel_rfl
theorem fn40 : cfg.fn.get none 40 = some Tryz.f40 := by kernel_rfl
theorem fn41 : cfg.fn.get none 41 = some Tryz.f41 := by kernel_rfl
theorem fn42 : cfg.fn.get none 42 = some Tryz.f42 := by kernel_rfl
theorem fn43 : cfg.fn.get none 43 = some Tryz.f43 := by kernel_rfl
theorem fn44 : cfg.fn.get none 44 = some Tryz.f44 := by kernel_rfl
theorem fn45 : cfg.fn.get none 45 = some Tryz.f45 := by kernel_rfl
theorem fn46 : cfg.fn.get none 46 = some Tryz.f46 := by kernel_rfl
theorem fn47 : cfg.fn.get none 47 = some Tryz.f47 := by kernel_rfl
theorem fn48 : cfg.fn.get none 48 = some Tryz.f48 := by kernel_rfl
theorem fn49 : cfg.fn.get none 49 = some Tryz.f49 := by kernel_rfl
theorem fn50 : cfg.fn.get none 50 = some Tryz.f50 := by kernel_rfl
theorem fn51 : cfg.fn.get none 51 = some Tryz.f51 := by kernel_rfl
theorem fn52 : cfg.fn.get none 52 = some Tryz.f52 := by kernel_rfl
theorem fn53 : cfg.fn.get none 53 = some Tryz.f53 := by kernel_rfl
theorem fn54 : cfg.fn.get none 54 = some Tryz.f54 := by kernel_rfl
theorem fn55 : cfg.fn.get none 55 = some Tryz.f55 := by kernel_rfl
theorem fn56 : cfg.fn.get none 56 = some Tryz.f56 := by kernel_rfl
theorem fn57 : cfg.fn.get none 57 = some Tryz.f57 := by kernel_rfl
theorem fn58 : cfg.fn.get none 58 = some Tryz.f58 := by kernel_rfl
theorem fn59 : cfg.fn.get none 59 = some Tryz.f59 := by kernel_rfl
theorem fn60 : cfg.fn.get none 60 = some Tryz.f60 := by kernel_rfl
theorem fn61 : cfg.fn.get none 61 = some Tryz.f61 := by kernel_rfl
theorem fn62 : cfg.fn.get none 62 = some Tryz.f62 := by kernel_rfl
theorem fn63 : cfg.fn.get none 63 = some Tryz.f63 := by kernel_rfl
theorem fn64 : cfg.fn.get none 64 = some Tryz.f64 := by kernel_rfl
theorem fn65 : cfg.fn.get none 65 = some Tryz.f65 := by kernel_rfl
theorem fn66 : cfg.fn.get none 66 = some Tryz.f66 := by kernel_rfl
theorem fn67 : cfg.fn.get none 67 = some Tryz.f67 := by kernel_rfl
theorem fn68 : cfg.fn.get none 68 = some Tryz.f68 := by kernel_rfl
theorem fn69 : cfg.fn.get none 69 = some Tryz.f69 := by kernel_rfl
theorem fn70 : cfg.fn.get none 70 = some Tryz.f70 := by kernel_rfl
theorem fn71 : cfg.fn.get none 71 = some Tryz.f71 := by kernel_rfl
theorem fn72 : cfg.fn.get none 72 = some Tryz.f72 := by kernel_rfl
theorem fn73 : cfg.fn.get none 73 = some Tryz.f73 := by kernel_rfl
theorem fn74 : cfg.fn.get none 74 = some Tryz.f74 := by kernel_rfl
theorem fn75 : cfg.fn.get none 75 = some Tryz.f75 := by kernel_rfl
theorem fn76 : cfg.fn.get none 76 = some Tryz.f76 := by kernel_rfl
theorem fn77 : cfg.fn.get none 77 = some Tryz.f77 := by kernel_rfl
theorem fn78 : cfg.fn.get none 78 = some Tryz.f78 := by kernel_rfl
theorem fn79 : cfg.fn.get none 79 = some Tryz.f79 := by kernel_rfl
theorem fn80 : cfg.fn.get none 80 = some Tryz.f80 := by kernel_rfl
theorem fn81 : cfg.fn.get none 81 = some Tryz.f81 := by kernel_rfl
theorem fn82 : cfg.fn.get none 82 = some Tryz.f82 := by kernel_rfl
theorem fn83 : cfg.fn.get none 83 = some Tryz.f83 := by kernel_rfl
theorem fn84 : cfg.fn.get none 84 = some Tryz.f84 := by kernel_rfl
theorem fn85 : cfg.fn.get none 85 = some Tryz.f85 := by kernel_rfl
theorem fn86 : cfg.fn.get none 86 = some Tryz.f86 := by kernel_rfl
theorem fn87 : cfg.fn.get none 87 = some Tryz.f87 := by kernel_rfl
theorem fn88 : cfg.fn.get none 88 = some Tryz.f88 := by kernel_rfl
theorem fn89 : cfg.fn.get none 89 = some Tryz.f89 := by kernel_rfl
theorem fn90 : cfg.fn.get none 90 = some Tryz.f90 := by kernel_rfl
theorem fn91 : cfg.fn.get none 91 = some Tryz.f91 := by kernel_rfl
theorem fn92 : cfg.fn.get none 92 = some Tryz.f92 := by kernel_rfl
theorem fn93 : cfg.fn.get none 93 = some Tryz.f93 := by kernel_rfl
theorem fn94 : cfg.fn.get none 94 = some Tryz.f94 := by kernel_rfl
theorem fn95 : cfg.fn.get none 95 = some Tryz.f95 := by kernel_rfl
theorem fn96 : cfg.fn.get none 96 = some Tryz.f96 := by kernel_rfl
theorem fn97 : cfg.fn.get none 97 = some Tryz.f97 := by kernel_rfl
theorem fn98 : cfg.fn.get none 98 = some Tryz.f98 := by kernel_rfl
theorem fn99 : cfg.fn.get none 99 = some Tryz.f99 := by kernel_rfl
theorem fn100 : cfg.fn.get none 100 = some Tryz.f100 := by kernel_rfl
theorem fn101 : cfg.fn.get none 101 = some Tryz.f101 := by kernel_rfl
theorem fn102 : cfg.fn.get none 102 = some Tryz.f102 := by kernel_rfl
theorem fn103 : cfg.fn.get none 103 = some Tryz.f103 := by kernel_rfl
theorem fn104 : cfg.fn.get none 104 = some Tryz.f104 := by kernel_rfl
theorem fn105 : cfg.fn.get none 105 = some Tryz.f105 := by kernel_rfl
theorem fn106 : cfg.fn.get none 106 = some Tryz.f106 := by kernel_rfl
theorem fn107 : cfg.fn.get none 107 = some Tryz.f107 := by kernel_rfl
theorem fn108 : cfg.fn.get none 108 = some Tryz.f108 := by kernel_rfl
theorem fn109 : cfg.fn.get none 109 = some Tryz.f109 := by kernel_rfl
theorem fn110 : cfg.fn.get none 110 = some Tryz.f110 := by kernel_rfl
theorem fn111 : cfg.fn.get none 111 = some Tryz.f111 := by kernel_rfl
theorem fn112 : cfg.fn.get none 112 = some Tryz.f112 := by kernel_rfl
theorem fn113 : cfg.fn.get none 113 = some Tryz.f113 := by kernel_rfl
theorem fn114 : cfg.fn.get none 114 = some Tryz.f114 := by kernel_rfl
theorem fn115 : cfg.fn.get none 115 = some Tryz.f115 := by kernel_rfl
theorem fn116 : cfg.fn.get none 116 = some Tryz.f116 := by kernel_rfl
theorem fn117 : cfg.fn.get none 117 = some Tryz.f117 := by kernel_rfl
theorem fn118 : cfg.fn.get none 118 = some Tryz.f118 := by kernel_rfl
theorem fn119 : cfg.fn.get none 119 = some Tryz.f119 := by kernel_rfl
theorem fn120 : cfg.fn.get none 120 = some Tryz.f120 := by kernel_rfl
theorem fn121 : cfg.fn.get none 121 = some Tryz.f121 := by kernel_rfl
theorem fn122 : cfg.fn.get none 122 = some Tryz.f122 := by kernel_rfl
theorem fn123 : cfg.fn.get none 123 = some Tryz.f123 := by kernel_rfl
theorem fn124 : cfg.fn.get none 124 = some Tryz.f124 := by kernel_rfl
theorem fn125 : cfg.fn.get none 125 = some Tryz.f125 := by kernel_rfl
theorem fn126 : cfg.fn.get none 126 = some Tryz.f126 := by kernel_rfl
theorem fn127 : cfg.fn.get none 127 = some Tryz.f127 := by kernel_rfl
theorem fn128 : cfg.fn.get none 128 = some Tryz.f128 := by kernel_rfl
theorem fn129 : cfg.fn.get none 129 = some Tryz.f129 := by kernel_rfl
theorem fn130 : cfg.fn.get none 130 = some Tryz.f130 := by kernel_rfl
theorem fn131 : cfg.fn.get none 131 = some Tryz.f131 := by kernel_rfl
theorem fn132 : cfg.fn.get none 132 = some Tryz.f132 := by kernel_rfl
theorem fn133 : cfg.fn.get none 133 = some Tryz.f133 := by kernel_rfl
theorem fn134 : cfg.fn.get none 134 = some Tryz.f134 := by kernel_rfl
theorem fn135 : cfg.fn.get none 135 = some Tryz.f135 := by kernel_rfl
theorem fn136 : cfg.fn.get none 136 = some Tryz.f136 := by kernel_rfl
theorem fn137 : cfg.fn.get none 137 = some Tryz.f137 := by kernel_rfl
theorem fn138 : cfg.fn.get none 138 = some Tryz.f138 := by kernel_rfl
theorem fn139 : cfg.fn.get none 139 = some Tryz.f139 := by kernel_rfl
theorem fn140 : cfg.fn.get none 140 = some Tryz.f140 := by kernel_rfl
theorem fn141 : cfg.fn.get none 141 = some Tryz.f141 := by kernel_rfl
theorem fn142 : cfg.fn.get none 142 = some Tryz.f142 := by kernel_rfl
end Go.Proofs.YtfhfnehoaiegcaaGreatDoor
