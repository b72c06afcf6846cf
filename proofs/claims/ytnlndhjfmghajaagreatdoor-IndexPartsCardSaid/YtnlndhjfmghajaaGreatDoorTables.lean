/- What the machine's tables hold: -/
import Derived.Test.YtnlndhjfmghajaaGreatDoorAmIr7
import Derived.Test.YtnlndhjfmghajaaGreatDoorSeatC
set_option linter.all false
namespace Go.Proofs.YtnlndhjfmghajaaGreatDoor
open Go.Am
@[simp] theorem cfg_ext (f:FuncId):cfg.ext f=exts f:=rfl
@[simp] theorem cfg_ov (f:FuncId):cfg.ov f=ovs f:=rfl
@[simp] theorem cfg_ovb (f:FuncId):cfg.ovb f=ovbs f:=rfl
@[simp] theorem cfg_own (f:FuncId):cfg.own f=owns f:=rfl
@[simp] theorem cfg_cut:cfg.cut=true:=rfl
@[simp] theorem cfg_brw (f:FuncId):cfg.brw f=false:=rfl
@[simp] theorem cfg_eat (f:FuncId):cfg.eat f=none:=rfl
@[simp] theorem cfg_muts (f:FuncId):cfg.muts f=muts f:=rfl
attribute [simp] exts ovs owns muts ovbs
-- type 1 left out
@[simp] theorem ti2:cfg.ti 2=some {desc:= .int .i64,size:=1,bytes:=8,zero:=some [.int .i64 0],agg:=false,eq:=true,fields:= []}:=by kernel_rfl
@[simp] theorem ti3:cfg.ti 3=some {desc:= .int .i64,size:=1,bytes:=8,zero:=some [.int .i64 0],agg:=false,eq:=true,fields:= []}:=by kernel_rfl
@[simp] theorem ti4:cfg.ti 4=some {desc:= .bool,size:=1,bytes:=1,zero:=some [.bool false],agg:=false,eq:=true,fields:= []}:=by kernel_rfl
@[simp] theorem ti5:cfg.ti 5=some {desc:= .int .u8,size:=1,bytes:=1,zero:=some [.int .u8 0],agg:=false,eq:=true,fields:= []}:=by kernel_rfl
@[simp] theorem ti6:cfg.ti 6=some {desc:= .int .u8,size:=1,bytes:=1,zero:=some [.int .u8 0],agg:=false,eq:=true,fields:= []}:=by kernel_rfl
@[simp] theorem ti7:cfg.ti 7=some {desc:= .struct (fieldsAt Tryz.prog 7),size:=4,bytes:=24,zero:=some [.int .i64 0,.int .i64 0,.bool false,.int .u8 0],agg:=true,eq:=true,fields:= [(2,0,1),(3,1,1),(4,2,1),(6,3,1)]}:=by kernel_rfl
@[simp] theorem ti8:cfg.ti 8=some {desc:= .struct (fieldsAt Tryz.prog 8),size:=4,bytes:=24,zero:=some [.int .i64 0,.int .i64 0,.bool false,.int .u8 0],agg:=true,eq:=true,fields:= [(2,0,1),(3,1,1),(4,2,1),(6,3,1)]}:=by kernel_rfl
@[simp] theorem ti9:cfg.ti 9=some {desc:= .string,size:=1,bytes:=16,zero:=some [.str []],agg:=false,eq:=true,fields:= []}:=by kernel_rfl
@[simp] theorem ti10:cfg.ti 10=some {desc:= .string,size:=1,bytes:=16,zero:=some [.str []],agg:=false,eq:=true,fields:= []}:=by kernel_rfl
@[simp] theorem ti11:cfg.ti 11=some {desc:= .string,size:=1,bytes:=16,zero:=some [.str []],agg:=false,eq:=true,fields:= []}:=by kernel_rfl
@[simp] theorem ti12:cfg.ti 12=some {desc:= .int .u64,size:=1,bytes:=8,zero:=some [.int .u64 0],agg:=false,eq:=true,fields:= []}:=by kernel_rfl
@[simp] theorem ti13:cfg.ti 13=some {desc:= .struct (fieldsAt Tryz.prog 13),size:=2,bytes:=24,zero:=some [.str [],.int .u64 0],agg:=true,eq:=false,fields:= [(9,0,1),(12,1,1)]}:=by kernel_rfl
@[simp] theorem ti14:cfg.ti 14=some {desc:= .struct (fieldsAt Tryz.prog 14),size:=2,bytes:=24,zero:=some [.str [],.int .u64 0],agg:=true,eq:=false,fields:= [(9,0,1),(12,1,1)]}:=by kernel_rfl
@[simp] theorem ti15:cfg.ti 15=some {desc:= .pointer 226,size:=1,bytes:=8,zero:=some [.nilp],agg:=false,eq:=true,fields:= []}:=by kernel_rfl
@[simp] theorem ti16:cfg.ti 16=some {desc:= .pointer 229,size:=1,bytes:=8,zero:=some [.nilp],agg:=false,eq:=true,fields:= []}:=by kernel_rfl
@[simp] theorem ti17:cfg.ti 17=some {desc:= .pointer 237,size:=1,bytes:=8,zero:=some [.nilp],agg:=false,eq:=true,fields:= []}:=by kernel_rfl
@[simp] theorem ti18:cfg.ti 18=some {desc:= .struct (fieldsAt Tryz.prog 18),size:=1,bytes:=8,zero:=some [.nilp],agg:=true,eq:=false,fields:= [(17,0,1)]}:=by kernel_rfl
@[simp] theorem ti19:cfg.ti 19=some {desc:= .struct (fieldsAt Tryz.prog 19),size:=1,bytes:=8,zero:=some [.nilp],agg:=true,eq:=false,fields:= [(17,0,1)]}:=by kernel_rfl
@[simp] theorem ti20:cfg.ti 20=some {desc:= .interface (match Tryz.prog.underlying 20 with | some (.interface ms)=>ms | _=> #[]),size:=1,bytes:=16,zero:=some [.ifc false],agg:=false,eq:=true,fields:= []}:=by kernel_rfl
@[simp] theorem ti21:cfg.ti 21=some {desc:= .int .i32,size:=1,bytes:=4,zero:=some [.int .i32 0],agg:=false,eq:=true,fields:= []}:=by kernel_rfl
@[simp] theorem ti22:cfg.ti 22=some {desc:= .array 2 3,size:=2,bytes:=16,zero:=some [.int .i64 0,.int .i64 0],agg:=true,eq:=true,fields:= []}:=by kernel_rfl
-- type 23 left out
@[simp] theorem ti24:cfg.ti 24=some {desc:= .slice 3,size:=1,bytes:=24,zero:=some [.lst (some true) 0 []],agg:=false,eq:=true,fields:= []}:=by kernel_rfl
@[simp] theorem ti25:cfg.ti 25=some {desc:= .struct (fieldsAt Tryz.prog 25),size:=3,bytes:=48,zero:=some [.int .i64 0,.str [],.lst (some true) 0 []],agg:=true,eq:=true,fields:= [(3,0,1),(9,1,1),(24,2,1)]}:=by kernel_rfl
@[simp] theorem ti26:cfg.ti 26=some {desc:= .struct (fieldsAt Tryz.prog 26),size:=3,bytes:=48,zero:=some [.int .i64 0,.str [],.lst (some true) 0 []],agg:=true,eq:=true,fields:= [(3,0,1),(9,1,1),(24,2,1)]}:=by kernel_rfl
-- type 27 left out
@[simp] theorem ti28:cfg.ti 28=some {desc:= .slice 9,size:=1,bytes:=24,zero:=some [.lst (some true) 0 []],agg:=false,eq:=true,fields:= []}:=by kernel_rfl
-- type 29 left out
-- type 30 left out
-- type 31 left out
-- type 32 left out
@[simp] theorem ti33:cfg.ti 33=some {desc:= .slice 82,size:=1,bytes:=24,zero:=some [.lst (some true) 0 []],agg:=false,eq:=true,fields:= []}:=by kernel_rfl
@[simp] theorem ti34:cfg.ti 34=some {desc:= .slice 73,size:=1,bytes:=24,zero:=some [.lst (some true) 0 []],agg:=false,eq:=true,fields:= []}:=by kernel_rfl
@[simp] theorem ti35:cfg.ti 35=some {desc:= .struct (fieldsAt Tryz.prog 35),size:=3,bytes:=72,zero:=some [.lst (some true) 0 [],.lst (some true) 0 [],.lst (some true) 0 []],agg:=true,eq:=true,fields:= [(28,0,1),(33,1,1),(34,2,1)]}:=by kernel_rfl
@[simp] theorem ti36:cfg.ti 36=some {desc:= .struct (fieldsAt Tryz.prog 36),size:=3,bytes:=72,zero:=some [.lst (some true) 0 [],.lst (some true) 0 [],.lst (some true) 0 []],agg:=true,eq:=true,fields:= [(28,0,1),(33,1,1),(34,2,1)]}:=by kernel_rfl
-- type 37 left out
@[simp] theorem ti38:cfg.ti 38=some {desc:= .slice 26,size:=1,bytes:=24,zero:=some [.lst (some true) 0 []],agg:=false,eq:=true,fields:= []}:=by kernel_rfl
@[simp] theorem ti39:cfg.ti 39=some {desc:= .int .i64,size:=1,bytes:=8,zero:=some [.int .i64 0],agg:=false,eq:=true,fields:= []}:=by kernel_rfl
-- type 41 left out
-- type 42 left out
-- type 43 left out
-- type 44 left out
-- type 45 left out
@[simp] theorem ti46:cfg.ti 46=some {desc:= .slice 53,size:=1,bytes:=24,zero:=some [.lst (some true) 0 []],agg:=false,eq:=true,fields:= []}:=by kernel_rfl
@[simp] theorem ti47:cfg.ti 47=some {desc:= .struct (fieldsAt Tryz.prog 47),size:=3,bytes:=48,zero:=some [.int .i64 0,.str [],.lst (some true) 0 []],agg:=true,eq:=true,fields:= [(3,0,1),(9,1,1),(46,2,1)]}:=by kernel_rfl
@[simp] theorem ti48:cfg.ti 48=some {desc:= .struct (fieldsAt Tryz.prog 48),size:=3,bytes:=48,zero:=some [.int .i64 0,.str [],.lst (some true) 0 []],agg:=true,eq:=true,fields:= [(3,0,1),(9,1,1),(46,2,1)]}:=by kernel_rfl
-- type 50 left out
@[simp] theorem ti51:cfg.ti 51=some {desc:= .slice 142,size:=1,bytes:=24,zero:=some [.lst (some true) 0 []],agg:=false,eq:=true,fields:= []}:=by kernel_rfl
@[simp] theorem ti52:cfg.ti 52=some {desc:= .struct (fieldsAt Tryz.prog 52),size:=3,bytes:=48,zero:=some [.int .i64 0,.str [],.lst (some true) 0 []],agg:=true,eq:=true,fields:= [(3,0,1),(9,1,1),(51,2,1)]}:=by kernel_rfl
@[simp] theorem ti53:cfg.ti 53=some {desc:= .struct (fieldsAt Tryz.prog 53),size:=3,bytes:=48,zero:=some [.int .i64 0,.str [],.lst (some true) 0 []],agg:=true,eq:=true,fields:= [(3,0,1),(9,1,1),(51,2,1)]}:=by kernel_rfl
@[simp] theorem ti54:cfg.ti 54=some {desc:= .map 61 4,size:=1,bytes:=8,zero:=some [.unk],agg:=false,eq:=true,fields:= []}:=by kernel_rfl
@[simp] theorem ti55:cfg.ti 55=some {desc:= .slice 58,size:=1,bytes:=24,zero:=some [.lst (some true) 0 []],agg:=false,eq:=true,fields:= []}:=by kernel_rfl
-- type 56 left out
@[simp] theorem ti57:cfg.ti 57=some {desc:= .struct (fieldsAt Tryz.prog 57),size:=3,bytes:=40,zero:=some [.int .i64 0,.str [],.str []],agg:=true,eq:=true,fields:= [(3,0,1),(9,1,1),(9,2,1)]}:=by kernel_rfl
@[simp] theorem ti58:cfg.ti 58=some {desc:= .struct (fieldsAt Tryz.prog 58),size:=3,bytes:=40,zero:=some [.int .i64 0,.str [],.str []],agg:=true,eq:=true,fields:= [(3,0,1),(9,1,1),(9,2,1)]}:=by kernel_rfl
-- type 59 left out
-- type 60 left out
@[simp] theorem ti61:cfg.ti 61=some {desc:= .array 2 9,size:=2,bytes:=32,zero:=some [.str [],.str []],agg:=true,eq:=true,fields:= []}:=by kernel_rfl
-- type 62 left out
-- type 63 left out
-- type 64 left out
-- type 66 left out
-- type 67 left out
-- type 68 left out
-- type 69 left out
-- type 70 left out
-- type 71 left out
@[simp] theorem ti72:cfg.ti 72=some {desc:= .struct (fieldsAt Tryz.prog 72),size:=6,bytes:=80,zero:=some [.int .i64 0,.int .i64 0,.int .i64 0,.str [],.str [],.lst (some true) 0 []],agg:=true,eq:=true,fields:= [(3,0,1),(3,1,1),(3,2,1),(9,3,1),(9,4,1),(55,5,1)]}:=by kernel_rfl
@[simp] theorem ti73:cfg.ti 73=some {desc:= .struct (fieldsAt Tryz.prog 73),size:=6,bytes:=80,zero:=some [.int .i64 0,.int .i64 0,.int .i64 0,.str [],.str [],.lst (some true) 0 []],agg:=true,eq:=true,fields:= [(3,0,1),(3,1,1),(3,2,1),(9,3,1),(9,4,1),(55,5,1)]}:=by kernel_rfl
-- type 74 left out
-- type 75 left out
-- type 76 left out
@[simp] theorem ti77:cfg.ti 77=some {desc:= .slice 5,size:=1,bytes:=24,zero:=some [.lst (some true) 0 []],agg:=false,eq:=true,fields:= []}:=by kernel_rfl
-- type 78 left out
-- type 79 left out
-- type 80 left out
@[simp] theorem ti81:cfg.ti 81=some {desc:= .struct (fieldsAt Tryz.prog 81),size:=4,bytes:=48,zero:=some [.int .i64 0,.str [],.str [],.int .i64 0],agg:=true,eq:=true,fields:= [(3,0,1),(9,1,1),(9,2,1),(3,3,1)]}:=by kernel_rfl
@[simp] theorem ti82:cfg.ti 82=some {desc:= .struct (fieldsAt Tryz.prog 82),size:=4,bytes:=48,zero:=some [.int .i64 0,.str [],.str [],.int .i64 0],agg:=true,eq:=true,fields:= [(3,0,1),(9,1,1),(9,2,1),(3,3,1)]}:=by kernel_rfl
-- type 83 left out
-- type 84 left out
-- type 85 left out
-- type 86 left out
@[simp] theorem ti87:cfg.ti 87=some {desc:= .struct (fieldsAt Tryz.prog 87),size:=2,bytes:=24,zero:=some [.int .i64 0,.str []],agg:=true,eq:=true,fields:= [(3,0,1),(9,1,1)]}:=by kernel_rfl
@[simp] theorem ti88:cfg.ti 88=some {desc:= .struct (fieldsAt Tryz.prog 88),size:=2,bytes:=24,zero:=some [.int .i64 0,.str []],agg:=true,eq:=true,fields:= [(3,0,1),(9,1,1)]}:=by kernel_rfl
-- type 89 left out
@[simp] theorem ti90:cfg.ti 90=some {desc:= .map 88 24,size:=1,bytes:=8,zero:=some [.unk],agg:=false,eq:=true,fields:= []}:=by kernel_rfl
-- type 91 left out
-- type 92 left out
-- type 93 left out
-- type 94 left out
-- type 95 left out
-- type 96 left out
-- type 97 left out
-- type 98 left out
-- type 99 left out
-- type 100 left out
-- type 101 left out
-- type 102 left out
-- type 103 left out
-- type 104 left out
-- type 105 left out
-- type 106 left out
-- type 107 left out
-- type 108 left out
-- type 109 left out
@[simp] theorem ti110:cfg.ti 110=some {desc:= .pointer 112,size:=1,bytes:=8,zero:=some [.nilp],agg:=false,eq:=true,fields:= []}:=by kernel_rfl
@[simp] theorem ti111:cfg.ti 111=some {desc:= .struct (fieldsAt Tryz.prog 111),size:=2,bytes:=32,zero:=some [.nilp,.lst (some true) 0 []],agg:=true,eq:=true,fields:= [(110,0,1),(77,1,1)]}:=by kernel_rfl
@[simp] theorem ti112:cfg.ti 112=some {desc:= .struct (fieldsAt Tryz.prog 112),size:=2,bytes:=32,zero:=some [.nilp,.lst (some true) 0 []],agg:=true,eq:=true,fields:= [(110,0,1),(77,1,1)]}:=by kernel_rfl
-- type 113 left out
@[simp] theorem ti114:cfg.ti 114=some {desc:= .interface (match Tryz.prog.underlying 114 with | some (.interface ms)=>ms | _=> #[]),size:=1,bytes:=16,zero:=some [.ifc false],agg:=false,eq:=false,fields:= []}:=by kernel_rfl
@[simp] theorem ti115:cfg.ti 115=some {desc:= .interface (match Tryz.prog.underlying 115 with | some (.interface ms)=>ms | _=> #[]),size:=1,bytes:=16,zero:=some [.ifc false],agg:=false,eq:=false,fields:= []}:=by kernel_rfl
-- type 117 left out
-- type 118 left out
-- type 119 left out
-- type 120 left out
@[simp] theorem ti121:cfg.ti 121=some {desc:= .array 256 4,size:=256,bytes:=256,zero:=some [.bool false,.bool false,.bool false,.bool false,.bool false,.bool false,.bool false,.bool false,.bool false,.bool false,.bool false,.bool false,.bool false,.bool false,.bool false,.bool false,.bool false,.bool false,.bool false,.bool false,.bool false,.bool false,.bool false,.bool false,.bool false,.bool false,.bool false,.bool false,.bool false,.bool false,.bool false,.bool false,.bool false,.bool false,.bool false,.bool false,.bool false,.bool false,.bool false,.bool false,.bool false,.bool false,.bool false,.bool false,.bool false,.bool false,.bool false,.bool false,.bool false,.bool false,.bool false,.bool false,.bool false,.bool false,.bool false,.bool false,.bool false,.bool false,.bool false,.bool false,.bool false,.bool false,.bool false,.bool false,.bool false,.bool false,.bool false,.bool false,.bool false,.bool false,.bool false,.bool false,.bool false,.bool false,.bool false,.bool false,.bool false,.bool false,.bool false,.bool false,.bool false,.bool false,.bool false,.bool false,.bool false,.bool false,.bool false,.bool false,.bool false,.bool false,.bool false,.bool false,.bool false,.bool false,.bool false,.bool false,.bool false,.bool false,.bool false,.bool false,.bool false,.bool false,.bool false,.bool false,.bool false,.bool false,.bool false,.bool false,.bool false,.bool false,.bool false,.bool false,.bool false,.bool false,.bool false,.bool false,.bool false,.bool false,.bool false,.bool false,.bool false,.bool false,.bool false,.bool false,.bool false,.bool false,.bool false,.bool false,.bool false,.bool false,.bool false,.bool false,.bool false,.bool false,.bool false,.bool false,.bool false,.bool false,.bool false,.bool false,.bool false,.bool false,.bool false,.bool false,.bool false,.bool false,.bool false,.bool false,.bool false,.bool false,.bool false,.bool false,.bool false,.bool false,.bool false,.bool false,.bool false,.bool false,.bool false,.bool false,.bool false,.bool false,.bool false,.bool false,.bool false,.bool false,.bool false,.bool false,.bool false,.bool false,.bool false,.bool false,.bool false,.bool false,.bool false,.bool false,.bool false,.bool false,.bool false,.bool false,.bool false,.bool false,.bool false,.bool false,.bool false,.bool false,.bool false,.bool false,.bool false,.bool false,.bool false,.bool false,.bool false,.bool false,.bool false,.bool false,.bool false,.bool false,.bool false,.bool false,.bool false,.bool false,.bool false,.bool false,.bool false,.bool false,.bool false,.bool false,.bool false,.bool false,.bool false,.bool false,.bool false,.bool false,.bool false,.bool false,.bool false,.bool false,.bool false,.bool false,.bool false,.bool false,.bool false,.bool false,.bool false,.bool false,.bool false,.bool false,.bool false,.bool false,.bool false,.bool false,.bool false,.bool false,.bool false,.bool false,.bool false,.bool false,.bool false,.bool false,.bool false,.bool false,.bool false,.bool false,.bool false,.bool false,.bool false,.bool false,.bool false,.bool false,.bool false,.bool false,.bool false,.bool false,.bool false,.bool false],agg:=true,eq:=true,fields:= []}:=by kernel_rfl
@[simp] theorem ti122:cfg.ti 122=some {desc:= .array 256 4,size:=256,bytes:=256,zero:=some [.bool false,.bool false,.bool false,.bool false,.bool false,.bool false,.bool false,.bool false,.bool false,.bool false,.bool false,.bool false,.bool false,.bool false,.bool false,.bool false,.bool false,.bool false,.bool false,.bool false,.bool false,.bool false,.bool false,.bool false,.bool false,.bool false,.bool false,.bool false,.bool false,.bool false,.bool false,.bool false,.bool false,.bool false,.bool false,.bool false,.bool false,.bool false,.bool false,.bool false,.bool false,.bool false,.bool false,.bool false,.bool false,.bool false,.bool false,.bool false,.bool false,.bool false,.bool false,.bool false,.bool false,.bool false,.bool false,.bool false,.bool false,.bool false,.bool false,.bool false,.bool false,.bool false,.bool false,.bool false,.bool false,.bool false,.bool false,.bool false,.bool false,.bool false,.bool false,.bool false,.bool false,.bool false,.bool false,.bool false,.bool false,.bool false,.bool false,.bool false,.bool false,.bool false,.bool false,.bool false,.bool false,.bool false,.bool false,.bool false,.bool false,.bool false,.bool false,.bool false,.bool false,.bool false,.bool false,.bool false,.bool false,.bool false,.bool false,.bool false,.bool false,.bool false,.bool false,.bool false,.bool false,.bool false,.bool false,.bool false,.bool false,.bool false,.bool false,.bool false,.bool false,.bool false,.bool false,.bool false,.bool false,.bool false,.bool false,.bool false,.bool false,.bool false,.bool false,.bool false,.bool false,.bool false,.bool false,.bool false,.bool false,.bool false,.bool false,.bool false,.bool false,.bool false,.bool false,.bool false,.bool false,.bool false,.bool false,.bool false,.bool false,.bool false,.bool false,.bool false,.bool false,.bool false,.bool false,.bool false,.bool false,.bool false,.bool false,.bool false,.bool false,.bool false,.bool false,.bool false,.bool false,.bool false,.bool false,.bool false,.bool false,.bool false,.bool false,.bool false,.bool false,.bool false,.bool false,.bool false,.bool false,.bool false,.bool false,.bool false,.bool false,.bool false,.bool false,.bool false,.bool false,.bool false,.bool false,.bool false,.bool false,.bool false,.bool false,.bool false,.bool false,.bool false,.bool false,.bool false,.bool false,.bool false,.bool false,.bool false,.bool false,.bool false,.bool false,.bool false,.bool false,.bool false,.bool false,.bool false,.bool false,.bool false,.bool false,.bool false,.bool false,.bool false,.bool false,.bool false,.bool false,.bool false,.bool false,.bool false,.bool false,.bool false,.bool false,.bool false,.bool false,.bool false,.bool false,.bool false,.bool false,.bool false,.bool false,.bool false,.bool false,.bool false,.bool false,.bool false,.bool false,.bool false,.bool false,.bool false,.bool false,.bool false,.bool false,.bool false,.bool false,.bool false,.bool false,.bool false,.bool false,.bool false,.bool false,.bool false,.bool false,.bool false,.bool false,.bool false,.bool false,.bool false,.bool false,.bool false,.bool false,.bool false,.bool false,.bool false],agg:=true,eq:=true,fields:= []}:=by kernel_rfl
-- type 124 left out
-- type 125 left out
@[simp] theorem ti126:cfg.ti 126=some {desc:= .pointer 122,size:=1,bytes:=8,zero:=some [.nilp],agg:=false,eq:=true,fields:= []}:=by kernel_rfl
-- type 127 left out
-- type 128 left out
-- type 129 left out
-- type 130 left out
-- type 131 left out
-- type 132 left out
-- type 133 left out
-- type 134 left out
-- type 135 left out
@[simp] theorem ti136:cfg.ti 136=some {desc:= .map 3 9,size:=1,bytes:=8,zero:=some [.unk],agg:=false,eq:=true,fields:= []}:=by kernel_rfl
@[simp] theorem ti137:cfg.ti 137=some {desc:= .map 3 3,size:=1,bytes:=8,zero:=some [.unk],agg:=false,eq:=true,fields:= []}:=by kernel_rfl
-- type 139 left out
@[simp] theorem ti140:cfg.ti 140=some {desc:= .array 5 9,size:=5,bytes:=80,zero:=some [.str [],.str [],.str [],.str [],.str []],agg:=true,eq:=true,fields:= []}:=by kernel_rfl
@[simp] theorem ti141:cfg.ti 141=some {desc:= .struct (fieldsAt Tryz.prog 141),size:=3,bytes:=40,zero:=some [.int .i64 0,.str [],.str []],agg:=true,eq:=true,fields:= [(3,0,1),(9,1,1),(9,2,1)]}:=by kernel_rfl
@[simp] theorem ti142:cfg.ti 142=some {desc:= .struct (fieldsAt Tryz.prog 142),size:=3,bytes:=40,zero:=some [.int .i64 0,.str [],.str []],agg:=true,eq:=true,fields:= [(3,0,1),(9,1,1),(9,2,1)]}:=by kernel_rfl
-- type 143 left out
-- type 144 left out
-- type 145 left out
@[simp] theorem ti146:cfg.ti 146=some {desc:= .map 3 4,size:=1,bytes:=8,zero:=some [.unk],agg:=false,eq:=true,fields:= []}:=by kernel_rfl
-- type 148 left out
-- type 149 left out
@[simp] theorem ti150:cfg.ti 150=some {desc:= .pointer 5,size:=1,bytes:=8,zero:=some [.nilp],agg:=false,eq:=true,fields:= []}:=by kernel_rfl
-- type 151 left out
-- type 152 left out
-- type 154 left out
-- type 155 left out
-- type 156 left out
-- type 157 left out
-- type 158 left out
@[simp] theorem ti159:cfg.ti 159=some {desc:= .int .u64,size:=1,bytes:=8,zero:=some [.int .u64 0],agg:=false,eq:=true,fields:= []}:=by kernel_rfl
-- type 160 left out
-- type 161 left out
-- type 162 left out
-- type 163 left out
-- type 164 left out
-- type 165 left out
-- type 166 left out
-- type 167 left out
-- type 168 left out
-- type 169 left out
-- type 170 left out
@[simp] theorem ti171:cfg.ti 171=some {desc:= .unsafePointer,size:=1,bytes:=8,zero:=some [.nilp],agg:=false,eq:=true,fields:= []}:=by kernel_rfl
-- type 172 left out
-- type 173 left out
-- type 174 left out
-- type 175 left out
@[simp] theorem ti176:cfg.ti 176=some {desc:= .int .i64,size:=1,bytes:=8,zero:=some [.int .i64 0],agg:=false,eq:=true,fields:= []}:=by kernel_rfl
-- type 178 left out
-- type 179 left out
-- type 180 left out
-- type 182 left out
-- type 183 left out
-- type 185 left out
@[simp] theorem ti186:cfg.ti 186=some {desc:= .int .u64,size:=1,bytes:=8,zero:=some [.int .u64 0],agg:=false,eq:=true,fields:= []}:=by kernel_rfl
-- type 187 left out
-- type 189 left out
-- type 191 left out
@[simp] theorem ti195:cfg.ti 195=some {desc:= .array 16 194,size:=32,bytes:=32,zero:=some [.int .u8 0,.int .u8 0,.int .u8 0,.int .u8 0,.int .u8 0,.int .u8 0,.int .u8 0,.int .u8 0,.int .u8 0,.int .u8 0,.int .u8 0,.int .u8 0,.int .u8 0,.int .u8 0,.int .u8 0,.int .u8 0,.int .u8 0,.int .u8 0,.int .u8 0,.int .u8 0,.int .u8 0,.int .u8 0,.int .u8 0,.int .u8 0,.int .u8 0,.int .u8 0,.int .u8 0,.int .u8 0,.int .u8 0,.int .u8 0,.int .u8 0,.int .u8 0],agg:=true,eq:=true,fields:= []}:=by kernel_rfl
@[simp] theorem ti196:cfg.ti 196=some {desc:= .int .u64,size:=1,bytes:=8,zero:=some [.int .u64 0],agg:=false,eq:=true,fields:= []}:=by kernel_rfl
-- type 197 left out
-- type 198 left out
-- type 199 left out
@[simp] theorem ti200:cfg.ti 200=some {desc:= .pointer 3,size:=1,bytes:=8,zero:=some [.nilp],agg:=false,eq:=true,fields:= []}:=by kernel_rfl
-- type 201 left out
-- type 203 left out
-- type 205 left out
-- type 206 left out
-- type 208 left out
-- type 209 left out
@[simp] theorem ti212:cfg.ti 212=some {desc:= .int .i64,size:=1,bytes:=8,zero:=some [.int .i64 0],agg:=false,eq:=true,fields:= []}:=by kernel_rfl
-- type 213 left out
-- type 215 left out
-- type 216 left out
-- type 219 left out
-- type 230 left out
-- type 233 left out
theorem fn0:cfg.fn.get none 0=some Tryz.f0:=by kernel_rfl
theorem fn2:cfg.fn.get none 2=some Tryz.f2:=by kernel_rfl
theorem fn3:cfg.fn.get none 3=some Tryz.f3:=by kernel_rfl
theorem fn6:cfg.fn.get none 6=some Tryz.f6:=by kernel_rfl
theorem fn7:cfg.fn.get none 7=some Tryz.f7:=by kernel_rfl
theorem fn10:cfg.fn.get none 10=some Tryz.f10:=by kernel_rfl
theorem fn11:cfg.fn.get none 11=some Tryz.f11:=by kernel_rfl
theorem fn12:cfg.fn.get none 12=some Tryz.f12:=by kernel_rfl
theorem fn13:cfg.fn.get none 13=some Tryz.f13:=by kernel_rfl
theorem fn14:cfg.fn.get none 14=some Tryz.f14:=by kernel_rfl
theorem fn15:cfg.fn.get none 15=some Tryz.f15:=by kernel_rfl
theorem fn16:cfg.fn.get none 16=some Tryz.f16:=by kernel_rfl
theorem fn17:cfg.fn.get none 17=some Tryz.f17:=by kernel_rfl
theorem fn18:cfg.fn.get none 18=some Tryz.f18:=by kernel_rfl
theorem fn20:cfg.fn.get none 20=some Tryz.f20:=by kernel_rfl
theorem fn24:cfg.fn.get none 24=some Tryz.f24:=by kernel_rfl
theorem fn26:cfg.fn.get none 26=some Tryz.f26:=by kernel_rfl
theorem fn27:cfg.fn.get none 27=some Tryz.f27:=by kernel_rfl
theorem fn28:cfg.fn.get none 28=some Tryz.f28:=by kernel_rfl
theorem fn29:cfg.fn.get none 29=some Tryz.f29:=by kernel_rfl
theorem fn30:cfg.fn.get none 30=some Tryz.f30:=by kernel_rfl
theorem fn31:cfg.fn.get none 31=some Tryz.f31:=by kernel_rfl
theorem fn32:cfg.fn.get none 32=some Tryz.f32:=by kernel_rfl
theorem fn33:cfg.fn.get none 33=some Tryz.f33:=by kernel_rfl
theorem fn34:cfg.fn.get none 34=some Tryz.f34:=by kernel_rfl
theorem fn35:cfg.fn.get none 35=some Tryz.f35:=by kernel_rfl
theorem fn36:cfg.fn.get none 36=some Tryz.f36:=by kernel_rfl
theorem fn37:cfg.fn.get none 37=some Tryz.f37:=by kernel_rfl
theorem fn40:cfg.fn.get none 40=some Tryz.f40:=by kernel_rfl
theorem fn42:cfg.fn.get none 42=some Tryz.f42:=by kernel_rfl
theorem fn43:cfg.fn.get none 43=some Tryz.f43:=by kernel_rfl
theorem fn44:cfg.fn.get none 44=some Tryz.f44:=by kernel_rfl
theorem fn45:cfg.fn.get none 45=some Tryz.f45:=by kernel_rfl
theorem fn46:cfg.fn.get none 46=some Tryz.f46:=by kernel_rfl
theorem fn47:cfg.fn.get none 47=some Tryz.f47:=by kernel_rfl
theorem fn49:cfg.fn.get none 49=some Tryz.f49:=by kernel_rfl
theorem fn50:cfg.fn.get none 50=some Tryz.f50:=by kernel_rfl
theorem fn51:cfg.fn.get none 51=some Tryz.f51:=by kernel_rfl
theorem fn52:cfg.fn.get none 52=some Tryz.f52:=by kernel_rfl
theorem fn53:cfg.fn.get none 53=some Tryz.f53:=by kernel_rfl
theorem fn54:cfg.fn.get none 54=some Tryz.f54:=by kernel_rfl
theorem fn55:cfg.fn.get none 55=some Tryz.f55:=by kernel_rfl
theorem fn56:cfg.fn.get none 56=some Tryz.f56:=by kernel_rfl
theorem fn57:cfg.fn.get none 57=some Tryz.f57:=by kernel_rfl
theorem fn62:cfg.fn.get none 62=some Tryz.f62:=by kernel_rfl
theorem fn64:cfg.fn.get none 64=some Tryz.f64:=by kernel_rfl
theorem fn65:cfg.fn.get none 65=some Tryz.f65:=by kernel_rfl
theorem fn66:cfg.fn.get none 66=some Tryz.f66:=by kernel_rfl
theorem fn67:cfg.fn.get none 67=some Tryz.f67:=by kernel_rfl
theorem fn68:cfg.fn.get none 68=some Tryz.f68:=by kernel_rfl
theorem fn69:cfg.fn.get none 69=some Tryz.f69:=by kernel_rfl
theorem fn70:cfg.fn.get none 70=some Tryz.f70:=by kernel_rfl
theorem fn71:cfg.fn.get none 71=some Tryz.f71:=by kernel_rfl
theorem fn72:cfg.fn.get none 72=some Tryz.f72:=by kernel_rfl
theorem fn73:cfg.fn.get none 73=some Tryz.f73:=by kernel_rfl
theorem fn74:cfg.fn.get none 74=some Tryz.f74:=by kernel_rfl
theorem fn75:cfg.fn.get none 75=some Tryz.f75:=by kernel_rfl
theorem fn76:cfg.fn.get none 76=some Tryz.f76:=by kernel_rfl
theorem fn77:cfg.fn.get none 77=some Tryz.f77:=by kernel_rfl
theorem fn78:cfg.fn.get none 78=some Tryz.f78:=by kernel_rfl
theorem fn80:cfg.fn.get none 80=some Tryz.f80:=by kernel_rfl
theorem fn81:cfg.fn.get none 81=some Tryz.f81:=by kernel_rfl
theorem fn82:cfg.fn.get none 82=some Tryz.f82:=by kernel_rfl
theorem fn83:cfg.fn.get none 83=some Tryz.f83:=by kernel_rfl
theorem fn85:cfg.fn.get none 85=some Tryz.f85:=by kernel_rfl
theorem fn86:cfg.fn.get none 86=some Tryz.f86:=by kernel_rfl
theorem fn87:cfg.fn.get none 87=some Tryz.f87:=by kernel_rfl
theorem fn88:cfg.fn.get none 88=some Tryz.f88:=by kernel_rfl
theorem fn89:cfg.fn.get none 89=some Tryz.f89:=by kernel_rfl
theorem fn95:cfg.fn.get none 95=some Tryz.f95:=by kernel_rfl
theorem fn96:cfg.fn.get none 96=some Tryz.f96:=by kernel_rfl
theorem fn97:cfg.fn.get none 97=some Tryz.f97:=by kernel_rfl
theorem fn98:cfg.fn.get none 98=some Tryz.f98:=by kernel_rfl
theorem fn107:cfg.fn.get none 107=some Tryz.f107:=by kernel_rfl
theorem fn108:cfg.fn.get none 108=some Tryz.f108:=by kernel_rfl
theorem fn109:cfg.fn.get none 109=some Tryz.f109:=by kernel_rfl
theorem fn110:cfg.fn.get none 110=some Tryz.f110:=by kernel_rfl
theorem fn114:cfg.fn.get none 114=some Tryz.f114:=by kernel_rfl
theorem fn115:cfg.fn.get none 115=some Tryz.f115:=by kernel_rfl
theorem fn117:cfg.fn.get none 117=some Tryz.f117:=by kernel_rfl
theorem fn118:cfg.fn.get none 118=some Tryz.f118:=by kernel_rfl
theorem fn119:cfg.fn.get none 119=some Tryz.f119:=by kernel_rfl
theorem fn120:cfg.fn.get none 120=some Tryz.f120:=by kernel_rfl
theorem fn121:cfg.fn.get none 121=some Tryz.f121:=by kernel_rfl
theorem fn123:cfg.fn.get none 123=some Tryz.f123:=by kernel_rfl
theorem fn125:cfg.fn.get none 125=some Tryz.f125:=by kernel_rfl
theorem fn132:cfg.fn.get none 132=some Tryz.f132:=by kernel_rfl
theorem fn133:cfg.fn.get none 133=some Tryz.f133:=by kernel_rfl
theorem fn134:cfg.fn.get none 134=some Tryz.f134:=by kernel_rfl
theorem fn135:cfg.fn.get none 135=some Tryz.f135:=by kernel_rfl
theorem fn142:cfg.fn.get none 142=some Tryz.f142:=by kernel_rfl
theorem fn143:cfg.fn.get none 143=some Tryz.f143:=by kernel_rfl
theorem fn148:cfg.fn.get none 148=some Tryz.f148:=by kernel_rfl
theorem fn150:cfg.fn.get none 150=some Tryz.f150:=by kernel_rfl
theorem fn151:cfg.fn.get none 151=some Tryz.f151:=by kernel_rfl
theorem fn152:cfg.fn.get none 152=some Tryz.f152:=by kernel_rfl
theorem fn161:cfg.fn.get none 161=some Tryz.f161:=by kernel_rfl
theorem fn170:cfg.fn.get none 170=some Tryz.f170:=by kernel_rfl
theorem fn174:cfg.fn.get none 174=some Tryz.f174:=by kernel_rfl
theorem fn175:cfg.fn.get none 175=some Tryz.f175:=by kernel_rfl
theorem fn188:cfg.fn.get none 188=some Tryz.f188:=by kernel_rfl
theorem fn195:cfg.fn.get none 195=some Tryz.f195:=by kernel_rfl
end Go.Proofs.YtnlndhjfmghajaaGreatDoor
