/-
 What the machine's tables hold: types and functions of this program (written by tables.py).
-/
import Derived.Test.YtfnkchadeaedlaaGreatDoorAmIr7
import Derived.Test.YtfnkchadeaedlaaGreatDoorSeatC
set_option linter.all false
namespace Go.Proofs.YtfnkchadeaedlaaGreatDoor
open Go.Am
@[simp] theorem cfg_ext (f:FuncId):cfg.ext f=exts f:=rfl
@[simp] theorem cfg_ov (f:FuncId):cfg.ov f=ovs f:=rfl
@[simp] theorem cfg_ovb (f:FuncId):cfg.ovb f=ovbs f:=rfl
@[simp] theorem cfg_own (f:FuncId):cfg.own f=owns f:=rfl
@[simp] theorem cfg_cut:cfg.cut=true:=rfl
@[simp] theorem cfg_muts (f:FuncId):cfg.muts f=muts f:=rfl
attribute [simp] exts ovs owns muts ovbs -- type 1 left out
@[simp] theorem ti3:cfg.ti 3=some ⟨.int .i64,1,8,some [.int .i64 0],false,true,[]⟩:=by kernel_rfl
@[simp] theorem ti4:cfg.ti 4=some ⟨.bool,1,1,some [.bool false],false,true,[]⟩:=by kernel_rfl
@[simp] theorem ti5:cfg.ti 5=some ⟨.int .u8,1,1,some [.int .u8 0],false,true,[]⟩:=by kernel_rfl
@[simp] theorem ti9:cfg.ti 9=some ⟨.string,1,16,some [.str []],false,true,[]⟩:=by kernel_rfl
@[simp] theorem ti20:cfg.ti 20=some ⟨.interface (match Tryz.prog.underlying 20 with | some (.interface ms)=>ms | _=> #[]),1,16,some [.ifc false],false,true,[]⟩:=by kernel_rfl
@[simp] theorem ti22:cfg.ti 22=some ⟨.slice 9,1,24,some [.lst (some true) 0 []],false,true,[]⟩:=by kernel_rfl
@[simp] theorem ti23:cfg.ti 23=some ⟨.slice 77,1,24,some [.lst (some true) 0 []],false,true,[]⟩:=by kernel_rfl
@[simp] theorem ti24:cfg.ti 24=some ⟨.slice 73,1,24,some [.lst (some true) 0 []],false,true,[]⟩:=by kernel_rfl
@[simp] theorem ti26:cfg.ti 26=some ⟨.struct (fieldsAt Tryz.prog 26),3,72,some [.lst (some true) 0 [],.lst (some true) 0 [],.lst (some true) 0 []],true,true,[(22,0,1),(23,1,1),(24,2,1)]⟩:=by kernel_rfl
@[simp] theorem ti28:cfg.ti 28=some ⟨.struct (fieldsAt Tryz.prog 28),2,16,some [.int .i64 0,.int .i64 0],true,true,[(3,0,1),(3,1,1)]⟩:=by kernel_rfl
-- type 29 left out
-- type 30 left out
@[simp] theorem ti31:cfg.ti 31=some ⟨.slice 57,1,24,some [.lst (some true) 0 []],false,true,[]⟩:=by kernel_rfl
@[simp] theorem ti39:cfg.ti 39=some ⟨.slice 46,1,24,some [.lst (some true) 0 []],false,true,[]⟩:=by kernel_rfl
@[simp] theorem ti41:cfg.ti 41=some ⟨.struct (fieldsAt Tryz.prog 41),3,48,some [.int .i64 0,.str [],.lst (some true) 0 []],true,true,[(3,0,1),(9,1,1),(39,2,1)]⟩:=by kernel_rfl
-- type 43 left out
@[simp] theorem ti44:cfg.ti 44=some ⟨.slice 75,1,24,some [.lst (some true) 0 []],false,true,[]⟩:=by kernel_rfl
@[simp] theorem ti46:cfg.ti 46=some ⟨.struct (fieldsAt Tryz.prog 46),3,48,some [.int .i64 0,.str [],.lst (some true) 0 []],true,true,[(3,0,1),(9,1,1),(44,2,1)]⟩:=by kernel_rfl
-- type 48 left out
-- type 49 left out
-- type 50 left out
-- type 51 left out
-- type 52 left out
-- type 53 left out
-- type 54 left out
@[simp] theorem ti55:cfg.ti 55=some ⟨.slice 28,1,24,some [.lst (some true) 0 []],false,true,[]⟩:=by kernel_rfl
@[simp] theorem ti57:cfg.ti 57=some ⟨.struct (fieldsAt Tryz.prog 57),3,32,some [.int .i64 0,.int .i64 0,.str []],true,true,[(28,0,2),(9,2,1)]⟩:=by kernel_rfl
-- type 58 left out
-- type 59 left out
-- type 60 left out
-- type 61 left out
-- type 62 left out
-- type 63 left out
-- type 64 left out
-- type 65 left out
-- type 66 left out
-- type 67 left out
-- type 68 left out
-- type 69 left out
-- type 70 left out
@[simp] theorem ti71:cfg.ti 71=some ⟨.slice 79,1,24,some [.lst (some true) 0 []],false,true,[]⟩:=by kernel_rfl
@[simp] theorem ti73:cfg.ti 73=some ⟨.struct (fieldsAt Tryz.prog 73),6,80,some [.int .i64 0,.int .i64 0,.int .i64 0,.str [],.str [],.lst (some true) 0 []],true,true,[(3,0,1),(3,1,1),(3,2,1),(9,3,1),(9,4,1),(71,5,1)]⟩:=by kernel_rfl
@[simp] theorem ti75:cfg.ti 75=some ⟨.struct (fieldsAt Tryz.prog 75),3,40,some [.int .i64 0,.str [],.str []],true,true,[(3,0,1),(9,1,1),(9,2,1)]⟩:=by kernel_rfl
@[simp] theorem ti77:cfg.ti 77=some ⟨.struct (fieldsAt Tryz.prog 77),4,48,some [.int .i64 0,.str [],.str [],.int .i64 0],true,true,[(3,0,1),(9,1,1),(9,2,1),(3,3,1)]⟩:=by kernel_rfl
@[simp] theorem ti79:cfg.ti 79=some ⟨.struct (fieldsAt Tryz.prog 79),3,40,some [.int .i64 0,.str [],.str []],true,true,[(3,0,1),(9,1,1),(9,2,1)]⟩:=by kernel_rfl
-- type 81 left out
@[simp] theorem ti82:cfg.ti 82=some ⟨.map 28 4,1,8,some [.unk],false,true,[]⟩:=by kernel_rfl
-- type 83 left out
-- type 85 left out
-- type 86 left out
-- type 87 left out
-- type 88 left out
-- type 89 left out
-- type 90 left out
-- type 91 left out
-- type 92 left out
-- type 93 left out
-- type 94 left out
-- type 95 left out
-- type 96 left out
-- type 97 left out
-- type 98 left out
-- type 99 left out
@[simp] theorem ti102:cfg.ti 102=some ⟨.struct (fieldsAt Tryz.prog 102),2,32,some [.lst (some true) 0 [],.bool false],true,true,[(31,0,1),(4,1,1)]⟩:=by kernel_rfl
-- type 103 left out
-- type 105 left out
-- type 106 left out
-- type 107 left out
-- type 108 left out
-- type 109 left out
-- type 110 left out
-- type 111 left out
-- type 112 left out
-- type 113 left out
-- type 114 left out
-- type 115 left out
-- type 116 left out
-- type 117 left out
@[simp] theorem ti120:cfg.ti 120=some ⟨.interface (match Tryz.prog.underlying 120 with | some (.interface ms)=>ms | _=> #[]),1,16,some [.ifc false],false,false,[]⟩:=by kernel_rfl
-- type 122 left out
-- type 123 left out
-- type 124 left out
@[simp] theorem ti130:cfg.ti 130=some ⟨.slice 3,1,24,some [.lst (some true) 0 []],false,true,[]⟩:=by kernel_rfl
-- type 131 left out
-- type 132 left out
-- type 133 left out
-- type 134 left out
-- type 135 left out
-- type 136 left out
-- type 137 left out
-- type 138 left out
@[simp] theorem ti139:cfg.ti 139=some ⟨.map 3 9,1,8,some [.unk],false,true,[]⟩:=by kernel_rfl
@[simp] theorem ti140:cfg.ti 140=some ⟨.map 3 3,1,8,some [.unk],false,true,[]⟩:=by kernel_rfl
@[simp] theorem ti141:cfg.ti 141=some ⟨.array 5 9,5,80,some [.str [],.str [],.str [],.str [],.str []],true,true,[]⟩:=by kernel_rfl
-- type 142 left out
-- type 143 left out
-- type 145 left out
-- type 146 left out
-- type 147 left out
-- type 148 left out
-- type 149 left out
-- type 151 left out
-- type 152 left out
-- type 153 left out
-- type 155 left out
@[simp] theorem ti156:cfg.ti 156=some ⟨.pointer 159,1,8,some [.nilp],false,true,[]⟩:=by kernel_rfl
@[simp] theorem ti157:cfg.ti 157=some ⟨.slice 5,1,24,some [.lst (some true) 0 []],false,true,[]⟩:=by kernel_rfl
@[simp] theorem ti159:cfg.ti 159=some ⟨.struct (fieldsAt Tryz.prog 159),2,32,some [.nilp,.lst (some true) 0 []],true,true,[(156,0,1),(157,1,1)]⟩:=by kernel_rfl
-- type 161 left out
-- type 162 left out
-- type 163 left out
-- type 165 left out
-- type 166 left out
-- type 167 left out
-- type 168 left out
-- type 169 left out
@[simp] theorem ti192:cfg.ti 192=some ⟨.pointer 5,1,8,some [.nilp],false,true,[]⟩:=by kernel_rfl
@[simp] theorem ti193:cfg.ti 193=some ⟨.int .i64,1,8,some [.int .i64 0],false,true,[]⟩:=by kernel_rfl
@[simp] theorem ti199:cfg.ti 199=some ⟨.struct (fieldsAt Tryz.prog 199),1,24,some [.lst (some true) 0 []],true,true,[(157,0,1)]⟩:=by kernel_rfl
-- type 200 left out
@[simp] theorem ti216:cfg.ti 216=some ⟨.unsafePointer,1,8,some [.nilp],false,true,[]⟩:=by kernel_rfl
-- type 217 left out
theorem fn0:cfg.fn.get none 0=some Tryz.f0:=by kernel_rfl
theorem fn2:cfg.fn.get none 2=some Tryz.f2:=by kernel_rfl
theorem fn4:cfg.fn.get none 4=some Tryz.f4:=by kernel_rfl
theorem fn10:cfg.fn.get none 10=some Tryz.f10:=by kernel_rfl
theorem fn11:cfg.fn.get none 11=some Tryz.f11:=by kernel_rfl
theorem fn12:cfg.fn.get none 12=some Tryz.f12:=by kernel_rfl
theorem fn13:cfg.fn.get none 13=some Tryz.f13:=by kernel_rfl
theorem fn16:cfg.fn.get none 16=some Tryz.f16:=by kernel_rfl
theorem fn18:cfg.fn.get none 18=some Tryz.f18:=by kernel_rfl
theorem fn19:cfg.fn.get none 19=some Tryz.f19:=by kernel_rfl
theorem fn20:cfg.fn.get none 20=some Tryz.f20:=by kernel_rfl
theorem fn21:cfg.fn.get none 21=some Tryz.f21:=by kernel_rfl
theorem fn24:cfg.fn.get none 24=some Tryz.f24:=by kernel_rfl
theorem fn36:cfg.fn.get none 36=some Tryz.f36:=by kernel_rfl
theorem fn37:cfg.fn.get none 37=some Tryz.f37:=by kernel_rfl
theorem fn38:cfg.fn.get none 38=some Tryz.f38:=by kernel_rfl
theorem fn39:cfg.fn.get none 39=some Tryz.f39:=by kernel_rfl
theorem fn40:cfg.fn.get none 40=some Tryz.f40:=by kernel_rfl
theorem fn41:cfg.fn.get none 41=some Tryz.f41:=by kernel_rfl
theorem fn44:cfg.fn.get none 44=some Tryz.f44:=by kernel_rfl
theorem fn50:cfg.fn.get none 50=some Tryz.f50:=by kernel_rfl
theorem fn56:cfg.fn.get none 56=some Tryz.f56:=by kernel_rfl
theorem fn57:cfg.fn.get none 57=some Tryz.f57:=by kernel_rfl
theorem fn58:cfg.fn.get none 58=some Tryz.f58:=by kernel_rfl
theorem fn59:cfg.fn.get none 59=some Tryz.f59:=by kernel_rfl
theorem fn60:cfg.fn.get none 60=some Tryz.f60:=by kernel_rfl
theorem fn61:cfg.fn.get none 61=some Tryz.f61:=by kernel_rfl
theorem fn62:cfg.fn.get none 62=some Tryz.f62:=by kernel_rfl
theorem fn63:cfg.fn.get none 63=some Tryz.f63:=by kernel_rfl
theorem fn64:cfg.fn.get none 64=some Tryz.f64:=by kernel_rfl
theorem fn65:cfg.fn.get none 65=some Tryz.f65:=by kernel_rfl
theorem fn66:cfg.fn.get none 66=some Tryz.f66:=by kernel_rfl
theorem fn67:cfg.fn.get none 67=some Tryz.f67:=by kernel_rfl
theorem fn68:cfg.fn.get none 68=some Tryz.f68:=by kernel_rfl
theorem fn77:cfg.fn.get none 77=some Tryz.f77:=by kernel_rfl
theorem fn78:cfg.fn.get none 78=some Tryz.f78:=by kernel_rfl
theorem fn79:cfg.fn.get none 79=some Tryz.f79:=by kernel_rfl
theorem fn80:cfg.fn.get none 80=some Tryz.f80:=by kernel_rfl
theorem fn81:cfg.fn.get none 81=some Tryz.f81:=by kernel_rfl
theorem fn82:cfg.fn.get none 82=some Tryz.f82:=by kernel_rfl
theorem fn83:cfg.fn.get none 83=some Tryz.f83:=by kernel_rfl
theorem fn84:cfg.fn.get none 84=some Tryz.f84:=by kernel_rfl
theorem fn87:cfg.fn.get none 87=some Tryz.f87:=by kernel_rfl
theorem fn88:cfg.fn.get none 88=some Tryz.f88:=by kernel_rfl
theorem fn104:cfg.fn.get none 104=some Tryz.f104:=by kernel_rfl
theorem fn105:cfg.fn.get none 105=some Tryz.f105:=by kernel_rfl
theorem fn106:cfg.fn.get none 106=some Tryz.f106:=by kernel_rfl
theorem fn107:cfg.fn.get none 107=some Tryz.f107:=by kernel_rfl
theorem fn108:cfg.fn.get none 108=some Tryz.f108:=by kernel_rfl
theorem fn109:cfg.fn.get none 109=some Tryz.f109:=by kernel_rfl
theorem fn110:cfg.fn.get none 110=some Tryz.f110:=by kernel_rfl
theorem fn111:cfg.fn.get none 111=some Tryz.f111:=by kernel_rfl
theorem fn112:cfg.fn.get none 112=some Tryz.f112:=by kernel_rfl
theorem fn113:cfg.fn.get none 113=some Tryz.f113:=by kernel_rfl
theorem fn114:cfg.fn.get none 114=some Tryz.f114:=by kernel_rfl
theorem fn115:cfg.fn.get none 115=some Tryz.f115:=by kernel_rfl
theorem fn116:cfg.fn.get none 116=some Tryz.f116:=by kernel_rfl
theorem fn117:cfg.fn.get none 117=some Tryz.f117:=by kernel_rfl
theorem fn118:cfg.fn.get none 118=some Tryz.f118:=by kernel_rfl
theorem fn119:cfg.fn.get none 119=some Tryz.f119:=by kernel_rfl
theorem fn121:cfg.fn.get none 121=some Tryz.f121:=by kernel_rfl
theorem fn122:cfg.fn.get none 122=some Tryz.f122:=by kernel_rfl
theorem fn125:cfg.fn.get none 125=some Tryz.f125:=by kernel_rfl
theorem fn126:cfg.fn.get none 126=some Tryz.f126:=by kernel_rfl
theorem fn127:cfg.fn.get none 127=some Tryz.f127:=by kernel_rfl
theorem fn128:cfg.fn.get none 128=some Tryz.f128:=by kernel_rfl
theorem fn131:cfg.fn.get none 131=some Tryz.f131:=by kernel_rfl
theorem fn132:cfg.fn.get none 132=some Tryz.f132:=by kernel_rfl
theorem fn134:cfg.fn.get none 134=some Tryz.f134:=by kernel_rfl
theorem fn135:cfg.fn.get none 135=some Tryz.f135:=by kernel_rfl
theorem fn146:cfg.fn.get none 146=some Tryz.f146:=by kernel_rfl
theorem fn154:cfg.fn.get none 154=some Tryz.f154:=by kernel_rfl
theorem fn155:cfg.fn.get none 155=some Tryz.f155:=by kernel_rfl
theorem fn156:cfg.fn.get none 156=some Tryz.f156:=by kernel_rfl
theorem fn157:cfg.fn.get none 157=some Tryz.f157:=by kernel_rfl
theorem fn158:cfg.fn.get none 158=some Tryz.f158:=by kernel_rfl
theorem fn159:cfg.fn.get none 159=some Tryz.f159:=by kernel_rfl
theorem fn160:cfg.fn.get none 160=some Tryz.f160:=by kernel_rfl
theorem fn161:cfg.fn.get none 161=some Tryz.f161:=by kernel_rfl
theorem fn162:cfg.fn.get none 162=some Tryz.f162:=by kernel_rfl
theorem fn165:cfg.fn.get none 165=some Tryz.f165:=by kernel_rfl
theorem fn167:cfg.fn.get none 167=some Tryz.f167:=by kernel_rfl
theorem fn170:cfg.fn.get none 170=some Tryz.f170:=by kernel_rfl
theorem fn176:cfg.fn.get none 176=some Tryz.f176:=by kernel_rfl
theorem fn177:cfg.fn.get none 177=some Tryz.f177:=by kernel_rfl
theorem fn184:cfg.fn.get none 184=some Tryz.f184:=by kernel_rfl
theorem fn187:cfg.fn.get none 187=some Tryz.f187:=by kernel_rfl
end Go.Proofs.YtfnkchadeaedlaaGreatDoor
