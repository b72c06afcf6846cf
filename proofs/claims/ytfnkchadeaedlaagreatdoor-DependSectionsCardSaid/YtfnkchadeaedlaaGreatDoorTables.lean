/-
 What the machine's tables hold: types and functions of this program (written by tables.py).
-/
import Derived.Test.YtfnkchadeaedlaaGreatDoorAmIr7
import Derived.Test.YtfnkchadeaedlaaGreatDoorSeatC
set_option linter.all false
namespace Go.Proofs.YtfnkchadeaedlaaGreatDoor
open Go.Am
@[simp] theorem SG (f:FuncId):cfg.ext f=exts f:=rfl
@[simp] theorem T2 (f:FuncId):cfg.ov f=D8 f:=rfl
@[simp] theorem SH (f:FuncId):cfg.BH f=qq f:=rfl
@[simp] theorem SI (f:FuncId):cfg.own f=JB f:=rfl
@[simp] theorem SJ:cfg.cut=true:=rfl
@[simp] theorem SK (f:FuncId):cfg.Di f=false:=rfl
@[simp] theorem Sb (f:FuncId):cfg.il f=il f:=rfl
attribute [simp] exts D8 JB il qq -- type 1 left out
@[simp] theorem U2:cfg.ti 3=some ⟨.int .i64,1,8,some [.int .i64 0],false,true,[]⟩:=by kernel_rfl
@[simp] theorem U3:cfg.ti 4=some ⟨.bool,1,1,some [.bool false],false,true,[]⟩:=by kernel_rfl
@[simp] theorem U4:cfg.ti 5=some ⟨.int .u8,1,1,some [.int .u8 0],false,true,[]⟩:=by kernel_rfl
@[simp] theorem U5:cfg.ti 9=some ⟨.string,1,16,some [.str []],false,true,[]⟩:=by kernel_rfl
@[simp] theorem T3:cfg.ti 20=some ⟨.interface (match Tryz.prog.underlying 20 with | some (.interface ms)=>ms | _=> #[]),1,16,some [.fG false],false,true,[]⟩:=by kernel_rfl
@[simp] theorem T4:cfg.ti 22=some ⟨.slice 9,1,24,some [.ak (some true) 0 []],false,true,[]⟩:=by kernel_rfl
@[simp] theorem T5:cfg.ti 23=some ⟨.slice 77,1,24,some [.ak (some true) 0 []],false,true,[]⟩:=by kernel_rfl
@[simp] theorem T6:cfg.ti 24=some ⟨.slice 73,1,24,some [.ak (some true) 0 []],false,true,[]⟩:=by kernel_rfl
@[simp] theorem T7:cfg.ti 26=some ⟨.struct (cI Tryz.prog 26),3,72,some [.ak (some true) 0 [],.ak (some true) 0 [],.ak (some true) 0 []],true,true,[(22,0,1),(23,1,1),(24,2,1)]⟩:=by kernel_rfl
@[simp] theorem T8:cfg.ti 28=some ⟨.struct (cI Tryz.prog 28),2,16,some [.int .i64 0,.int .i64 0],true,true,[(3,0,1),(3,1,1)]⟩:=by kernel_rfl
-- type 29 left out
-- type 30 left out
@[simp] theorem T9:cfg.ti 31=some ⟨.slice 57,1,24,some [.ak (some true) 0 []],false,true,[]⟩:=by kernel_rfl
@[simp] theorem Ua:cfg.ti 39=some ⟨.slice 46,1,24,some [.ak (some true) 0 []],false,true,[]⟩:=by kernel_rfl
@[simp] theorem Ub:cfg.ti 41=some ⟨.struct (cI Tryz.prog 41),3,48,some [.int .i64 0,.str [],.ak (some true) 0 []],true,true,[(3,0,1),(9,1,1),(39,2,1)]⟩:=by kernel_rfl
-- type 43 left out
@[simp] theorem Uc:cfg.ti 44=some ⟨.slice 75,1,24,some [.ak (some true) 0 []],false,true,[]⟩:=by kernel_rfl
@[simp] theorem Ud:cfg.ti 46=some ⟨.struct (cI Tryz.prog 46),3,48,some [.int .i64 0,.str [],.ak (some true) 0 []],true,true,[(3,0,1),(9,1,1),(44,2,1)]⟩:=by kernel_rfl
-- type 48 left out
-- type 49 left out
-- type 50 left out
-- type 51 left out
-- type 52 left out
-- type 53 left out
-- type 54 left out
@[simp] theorem Ue:cfg.ti 55=some ⟨.slice 28,1,24,some [.ak (some true) 0 []],false,true,[]⟩:=by kernel_rfl
@[simp] theorem Uf:cfg.ti 57=some ⟨.struct (cI Tryz.prog 57),3,32,some [.int .i64 0,.int .i64 0,.str []],true,true,[(28,0,2),(9,2,1)]⟩:=by kernel_rfl
-- type 58 left out
-- type 59 left out
-- type 60 left out
-- type 61 left out
-- type 62 left out
-- type 63 left out
-- type 64 left out
-- type 65 left out
-- type 66 left out
-- type 67 left out
-- type 68 left out
-- type 69 left out
-- type 70 left out
@[simp] theorem Ug:cfg.ti 71=some ⟨.slice 79,1,24,some [.ak (some true) 0 []],false,true,[]⟩:=by kernel_rfl
@[simp] theorem Uh:cfg.ti 73=some ⟨.struct (cI Tryz.prog 73),6,80,some [.int .i64 0,.int .i64 0,.int .i64 0,.str [],.str [],.ak (some true) 0 []],true,true,[(3,0,1),(3,1,1),(3,2,1),(9,3,1),(9,4,1),(71,5,1)]⟩:=by kernel_rfl
@[simp] theorem Ui:cfg.ti 75=some ⟨.struct (cI Tryz.prog 75),3,40,some [.int .i64 0,.str [],.str []],true,true,[(3,0,1),(9,1,1),(9,2,1)]⟩:=by kernel_rfl
@[simp] theorem Uj:cfg.ti 77=some ⟨.struct (cI Tryz.prog 77),4,48,some [.int .i64 0,.str [],.str [],.int .i64 0],true,true,[(3,0,1),(9,1,1),(9,2,1),(3,3,1)]⟩:=by kernel_rfl
@[simp] theorem Uk:cfg.ti 79=some ⟨.struct (cI Tryz.prog 79),3,40,some [.int .i64 0,.str [],.str []],true,true,[(3,0,1),(9,1,1),(9,2,1)]⟩:=by kernel_rfl
-- type 81 left out
@[simp] theorem QY:cfg.ti 82=some ⟨.map 28 4,1,8,some [.jG],false,true,[]⟩:=by kernel_rfl
-- type 83 left out
-- type 85 left out
-- type 86 left out
-- type 87 left out
-- type 88 left out
-- type 89 left out
-- type 90 left out
-- type 91 left out
-- type 92 left out
-- type 93 left out
-- type 94 left out
-- type 95 left out
-- type 96 left out
-- type 97 left out
-- type 98 left out
-- type 99 left out
@[simp] theorem Sc:cfg.ti 102=some ⟨.struct (cI Tryz.prog 102),2,32,some [.ak (some true) 0 [],.bool false],true,true,[(31,0,1),(4,1,1)]⟩:=by kernel_rfl
-- type 103 left out
-- type 105 left out
-- type 106 left out
-- type 107 left out
-- type 108 left out
-- type 109 left out
-- type 110 left out
-- type 111 left out
-- type 112 left out
-- type 113 left out
-- type 114 left out
-- type 115 left out
-- type 116 left out
-- type 117 left out
@[simp] theorem Sd:cfg.ti 120=some ⟨.interface (match Tryz.prog.underlying 120 with | some (.interface ms)=>ms | _=> #[]),1,16,some [.fG false],false,false,[]⟩:=by kernel_rfl
-- type 122 left out
-- type 123 left out
-- type 124 left out
@[simp] theorem Se:cfg.ti 130=some ⟨.slice 3,1,24,some [.ak (some true) 0 []],false,true,[]⟩:=by kernel_rfl
-- type 131 left out
-- type 132 left out
-- type 133 left out
-- type 134 left out
-- type 135 left out
-- type 136 left out
-- type 137 left out
-- type 138 left out
@[simp] theorem JT:cfg.ti 139=some ⟨.map 3 9,1,8,some [.jG],false,true,[]⟩:=by kernel_rfl
@[simp] theorem JU:cfg.ti 140=some ⟨.map 3 3,1,8,some [.jG],false,true,[]⟩:=by kernel_rfl
@[simp] theorem Sf:cfg.ti 141=some ⟨.array 5 9,5,80,some [.str [],.str [],.str [],.str [],.str []],true,true,[]⟩:=by kernel_rfl
-- type 142 left out
-- type 143 left out
-- type 145 left out
-- type 146 left out
-- type 147 left out
-- type 148 left out
-- type 149 left out
-- type 151 left out
-- type 152 left out
-- type 153 left out
-- type 155 left out
@[simp] theorem Sg:cfg.ti 156=some ⟨.pointer 159,1,8,some [.bG],false,true,[]⟩:=by kernel_rfl
@[simp] theorem Si:cfg.ti 157=some ⟨.slice 5,1,24,some [.ak (some true) 0 []],false,true,[]⟩:=by kernel_rfl
@[simp] theorem Sj:cfg.ti 159=some ⟨.struct (cI Tryz.prog 159),2,32,some [.bG,.ak (some true) 0 []],true,true,[(156,0,1),(157,1,1)]⟩:=by kernel_rfl
-- type 161 left out
-- type 162 left out
-- type 163 left out
-- type 165 left out
-- type 166 left out
-- type 167 left out
-- type 168 left out
-- type 169 left out
@[simp] theorem Sk:cfg.ti 192=some ⟨.pointer 5,1,8,some [.bG],false,true,[]⟩:=by kernel_rfl
@[simp] theorem Sl:cfg.ti 193=some ⟨.int .i64,1,8,some [.int .i64 0],false,true,[]⟩:=by kernel_rfl
@[simp] theorem Sm:cfg.ti 199=some ⟨.struct (cI Tryz.prog 199),1,24,some [.ak (some true) 0 []],true,true,[(157,0,1)]⟩:=by kernel_rfl
-- type 200 left out
@[simp] theorem Sn:cfg.ti 216=some ⟨.unsafePointer,1,8,some [.bG],false,true,[]⟩:=by kernel_rfl
-- type 217 left out
theorem TZ:cfg.fn.get none 0=some Tryz.f0:=by kernel_rfl
theorem UF:cfg.fn.get none 2=some Tryz.f2:=by kernel_rfl
theorem UY:cfg.fn.get none 8=some Tryz.f8:=by kernel_rfl
theorem TE:cfg.fn.get none 10=some Tryz.f10:=by kernel_rfl
theorem Tv:cfg.fn.get none 12=some Tryz.f12:=by kernel_rfl
theorem Tu:cfg.fn.get none 16=some Tryz.f16:=by kernel_rfl
theorem S4:cfg.fn.get none 18=some Tryz.f18:=by kernel_rfl
theorem Ri:cfg.fn.get none 19=some Tryz.f19:=by kernel_rfl
theorem TA:cfg.fn.get none 20=some Tryz.f20:=by kernel_rfl
theorem Ty:cfg.fn.get none 21=some Tryz.f21:=by kernel_rfl
theorem TC:cfg.fn.get none 24=some Tryz.f24:=by kernel_rfl
theorem TD:cfg.fn.get none 29=some Tryz.f29:=by kernel_rfl
theorem No:cfg.fn.get none 30=some Tryz.f30:=by kernel_rfl
theorem TV:cfg.fn.get none 31=some Tryz.f31:=by kernel_rfl
theorem Np:cfg.fn.get none 36=some Tryz.f36:=by kernel_rfl
theorem TB:cfg.fn.get none 37=some Tryz.f37:=by kernel_rfl
theorem S0:cfg.fn.get none 38=some Tryz.f38:=by kernel_rfl
theorem Lr:cfg.fn.get none 39=some Tryz.f39:=by kernel_rfl
theorem SV:cfg.fn.get none 40=some Tryz.f40:=by kernel_rfl
theorem Tt:cfg.fn.get none 41=some Tryz.f41:=by kernel_rfl
theorem Tw:cfg.fn.get none 44=some Tryz.f44:=by kernel_rfl
theorem TY:cfg.fn.get none 49=some Tryz.f49:=by kernel_rfl
theorem S6:cfg.fn.get none 50=some Tryz.f50:=by kernel_rfl
theorem SP:cfg.fn.get none 56=some Tryz.f56:=by kernel_rfl
theorem SL:cfg.fn.get none 57=some Tryz.f57:=by kernel_rfl
theorem SO:cfg.fn.get none 58=some Tryz.f58:=by kernel_rfl
theorem SR:cfg.fn.get none 59=some Tryz.f59:=by kernel_rfl
theorem SY:cfg.fn.get none 60=some Tryz.f60:=by kernel_rfl
theorem S1:cfg.fn.get none 61=some Tryz.f61:=by kernel_rfl
theorem SX:cfg.fn.get none 62=some Tryz.f62:=by kernel_rfl
theorem Rf:cfg.fn.get none 63=some Tryz.f63:=by kernel_rfl
theorem A9:cfg.fn.get none 64=some Tryz.f64:=by kernel_rfl
theorem Pz:cfg.fn.get none 65=some Tryz.f65:=by kernel_rfl
theorem Tq:cfg.fn.get none 66=some Tryz.f66:=by kernel_rfl
theorem Tx:cfg.fn.get none 67=some Tryz.f67:=by kernel_rfl
theorem Tz:cfg.fn.get none 68=some Tryz.f68:=by kernel_rfl
theorem TQ:cfg.fn.get none 71=some Tryz.f71:=by kernel_rfl
theorem TR:cfg.fn.get none 72=some Tryz.f72:=by kernel_rfl
theorem TU:cfg.fn.get none 73=some Tryz.f73:=by kernel_rfl
theorem TX:cfg.fn.get none 74=some Tryz.f74:=by kernel_rfl
theorem TW:cfg.fn.get none 75=some Tryz.f75:=by kernel_rfl
theorem TS:cfg.fn.get none 76=some Tryz.f76:=by kernel_rfl
theorem SZ:cfg.fn.get none 77=some Tryz.f77:=by kernel_rfl
theorem S5:cfg.fn.get none 78=some Tryz.f78:=by kernel_rfl
theorem SQ:cfg.fn.get none 79=some Tryz.f79:=by kernel_rfl
theorem SS:cfg.fn.get none 80=some Tryz.f80:=by kernel_rfl
theorem SU:cfg.fn.get none 81=some Tryz.f81:=by kernel_rfl
theorem Ts:cfg.fn.get none 82=some Tryz.f82:=by kernel_rfl
theorem S8:cfg.fn.get none 83=some Tryz.f83:=by kernel_rfl
theorem S7:cfg.fn.get none 84=some Tryz.f84:=by kernel_rfl
theorem SN:cfg.fn.get none 87=some Tryz.f87:=by kernel_rfl
theorem SM:cfg.fn.get none 88=some Tryz.f88:=by kernel_rfl
theorem Ro:cfg.fn.get none 100=some Tryz.f100:=by kernel_rfl
theorem O7:cfg.fn.get none 104=some Tryz.f104:=by kernel_rfl
theorem O8:cfg.fn.get none 105=some Tryz.f105:=by kernel_rfl
theorem Pe:cfg.fn.get none 106=some Tryz.f106:=by kernel_rfl
theorem OV:cfg.fn.get none 107=some Tryz.f107:=by kernel_rfl
theorem Pa:cfg.fn.get none 108=some Tryz.f108:=by kernel_rfl
theorem Pb:cfg.fn.get none 109=some Tryz.f109:=by kernel_rfl
theorem Py:cfg.fn.get none 110=some Tryz.f110:=by kernel_rfl
theorem PA:cfg.fn.get none 111=some Tryz.f111:=by kernel_rfl
theorem Pk:cfg.fn.get none 112=some Tryz.f112:=by kernel_rfl
theorem Pj:cfg.fn.get none 113=some Tryz.f113:=by kernel_rfl
theorem Re:cfg.fn.get none 114=some Tryz.f114:=by kernel_rfl
theorem Rc:cfg.fn.get none 115=some Tryz.f115:=by kernel_rfl
theorem Q4:cfg.fn.get none 116=some Tryz.f116:=by kernel_rfl
theorem Q8:cfg.fn.get none 117=some Tryz.f117:=by kernel_rfl
theorem Q6:cfg.fn.get none 118=some Tryz.f118:=by kernel_rfl
theorem Q2:cfg.fn.get none 119=some Tryz.f119:=by kernel_rfl
theorem Rs:cfg.fn.get none 121=some Tryz.f121:=by kernel_rfl
theorem Q9:cfg.fn.get none 122=some Tryz.f122:=by kernel_rfl
theorem Q0:cfg.fn.get none 125=some Tryz.f125:=by kernel_rfl
theorem Pn:cfg.fn.get none 126=some Tryz.f126:=by kernel_rfl
theorem Po:cfg.fn.get none 127=some Tryz.f127:=by kernel_rfl
theorem JM:cfg.fn.get none 128=some Tryz.f128:=by kernel_rfl
theorem RT:cfg.fn.get none 129=some Tryz.f129:=by kernel_rfl
theorem KH:cfg.fn.get none 130=some Tryz.f130:=by kernel_rfl
theorem Pp:cfg.fn.get none 131=some Tryz.f131:=by kernel_rfl
theorem JP:cfg.fn.get none 132=some Tryz.f132:=by kernel_rfl
theorem QS:cfg.fn.get none 134=some Tryz.f134:=by kernel_rfl
theorem Rm:cfg.fn.get none 135=some Tryz.f135:=by kernel_rfl
theorem OY:cfg.fn.get none 146=some Tryz.f146:=by kernel_rfl
theorem Rn:cfg.fn.get none 152=some Tryz.f152:=by kernel_rfl
theorem O6:cfg.fn.get none 154=some Tryz.f154:=by kernel_rfl
theorem O1:cfg.fn.get none 155=some Tryz.f155:=by kernel_rfl
theorem OX:cfg.fn.get none 156=some Tryz.f156:=by kernel_rfl
theorem O9:cfg.fn.get none 157=some Tryz.f157:=by kernel_rfl
theorem Pw:cfg.fn.get none 158=some Tryz.f158:=by kernel_rfl
theorem Q3:cfg.fn.get none 159=some Tryz.f159:=by kernel_rfl
theorem Q7:cfg.fn.get none 160=some Tryz.f160:=by kernel_rfl
theorem Q5:cfg.fn.get none 161=some Tryz.f161:=by kernel_rfl
theorem Q1:cfg.fn.get none 162=some Tryz.f162:=by kernel_rfl
theorem Rr:cfg.fn.get none 165=some Tryz.f165:=by kernel_rfl
theorem Pm:cfg.fn.get none 167=some Tryz.f167:=by kernel_rfl
theorem Rt:cfg.fn.get none 168=some Tryz.f168:=by kernel_rfl
theorem Ps:cfg.fn.get none 170=some Tryz.f170:=by kernel_rfl
theorem QR:cfg.fn.get none 176=some Tryz.f176:=by kernel_rfl
theorem Rk:cfg.fn.get none 177=some Tryz.f177:=by kernel_rfl
theorem O0:cfg.fn.get none 184=some Tryz.f184:=by kernel_rfl
theorem Rp:cfg.fn.get none 187=some Tryz.f187:=by kernel_rfl
theorem Rq:cfg.fn.get none 192=some Tryz.f192:=by kernel_rfl
end Go.Proofs.YtfnkchadeaedlaaGreatDoor
