/-
 What the machine's tables hold: types and functions of this program (written by tables.py).
-/
import Derived.Test.YtfnkchadeaedlaaGreatDoorAmIr7
import Derived.Test.YtfnkchadeaedlaaGreatDoorSeatC
set_option linter.all false
namespace Go.Proofs.YtfnkchadeaedlaaGreatDoor
open Go.Am
@[simp] theorem Vg (f:FuncId):cfg.ext f=exts f:=rfl
@[simp] theorem WT (f:FuncId):cfg.ov f=FC f:=rfl
@[simp] theorem Vh (f:FuncId):cfg.CU f=re f:=rfl
@[simp] theorem Vi (f:FuncId):cfg.own f=LM f:=rfl
@[simp] theorem Vj:cfg.cut=true:=rfl
@[simp] theorem Vk (f:FuncId):cfg.EG f=false:=rfl
@[simp] theorem UP (f:FuncId):cfg.iV f=iV f:=rfl
attribute [simp] exts FC LM iV re -- type 1 left out
@[simp] theorem XT:cfg.ti 3=some ⟨.int .i64,1,8,some [.int .i64 0],false,true,[]⟩:=by kernel_rfl
@[simp] theorem XU:cfg.ti 4=some ⟨.bool,1,1,some [.bool false],false,true,[]⟩:=by kernel_rfl
@[simp] theorem XV:cfg.ti 5=some ⟨.int .u8,1,1,some [.int .u8 0],false,true,[]⟩:=by kernel_rfl
@[simp] theorem XW:cfg.ti 9=some ⟨.string,1,16,some [.str []],false,true,[]⟩:=by kernel_rfl
@[simp] theorem WU:cfg.ti 20=some ⟨.interface (match Tryz.prog.underlying 20 with | some (.interface ms)=>ms | _=> #[]),1,16,some [.gj false],false,true,[]⟩:=by kernel_rfl
@[simp] theorem WV:cfg.ti 22=some ⟨.slice 9,1,24,some [.ah (some true) 0 []],false,true,[]⟩:=by kernel_rfl
@[simp] theorem WW:cfg.ti 23=some ⟨.slice 77,1,24,some [.ah (some true) 0 []],false,true,[]⟩:=by kernel_rfl
@[simp] theorem WX:cfg.ti 24=some ⟨.slice 73,1,24,some [.ah (some true) 0 []],false,true,[]⟩:=by kernel_rfl
@[simp] theorem WY:cfg.ti 26=some ⟨.struct (bN Tryz.prog 26),3,72,some [.ah (some true) 0 [],.ah (some true) 0 [],.ah (some true) 0 []],true,true,[(22,0,1),(23,1,1),(24,2,1)]⟩:=by kernel_rfl
@[simp] theorem WZ:cfg.ti 28=some ⟨.struct (bN Tryz.prog 28),2,16,some [.int .i64 0,.int .i64 0],true,true,[(3,0,1),(3,1,1)]⟩:=by kernel_rfl
-- type 29 left out
-- type 30 left out
@[simp] theorem W0:cfg.ti 31=some ⟨.slice 57,1,24,some [.ah (some true) 0 []],false,true,[]⟩:=by kernel_rfl
@[simp] theorem W4:cfg.ti 39=some ⟨.slice 46,1,24,some [.ah (some true) 0 []],false,true,[]⟩:=by kernel_rfl
@[simp] theorem W5:cfg.ti 41=some ⟨.struct (bN Tryz.prog 41),3,48,some [.int .i64 0,.str [],.ah (some true) 0 []],true,true,[(3,0,1),(9,1,1),(39,2,1)]⟩:=by kernel_rfl
-- type 43 left out
@[simp] theorem W6:cfg.ti 44=some ⟨.slice 75,1,24,some [.ah (some true) 0 []],false,true,[]⟩:=by kernel_rfl
@[simp] theorem W7:cfg.ti 46=some ⟨.struct (bN Tryz.prog 46),3,48,some [.int .i64 0,.str [],.ah (some true) 0 []],true,true,[(3,0,1),(9,1,1),(44,2,1)]⟩:=by kernel_rfl
-- type 48 left out
-- type 49 left out
-- type 50 left out
-- type 51 left out
-- type 52 left out
-- type 53 left out
-- type 54 left out
@[simp] theorem W8:cfg.ti 55=some ⟨.slice 28,1,24,some [.ah (some true) 0 []],false,true,[]⟩:=by kernel_rfl
@[simp] theorem W9:cfg.ti 57=some ⟨.struct (bN Tryz.prog 57),3,32,some [.int .i64 0,.int .i64 0,.str []],true,true,[(28,0,2),(9,2,1)]⟩:=by kernel_rfl
-- type 58 left out
-- type 59 left out
-- type 60 left out
-- type 61 left out
-- type 62 left out
-- type 63 left out
-- type 64 left out
-- type 65 left out
-- type 66 left out
-- type 67 left out
-- type 68 left out
-- type 69 left out
-- type 70 left out
@[simp] theorem Xa:cfg.ti 71=some ⟨.slice 79,1,24,some [.ah (some true) 0 []],false,true,[]⟩:=by kernel_rfl
@[simp] theorem Xb:cfg.ti 73=some ⟨.struct (bN Tryz.prog 73),6,80,some [.int .i64 0,.int .i64 0,.int .i64 0,.str [],.str [],.ah (some true) 0 []],true,true,[(3,0,1),(3,1,1),(3,2,1),(9,3,1),(9,4,1),(71,5,1)]⟩:=by kernel_rfl
@[simp] theorem Xc:cfg.ti 75=some ⟨.struct (bN Tryz.prog 75),3,40,some [.int .i64 0,.str [],.str []],true,true,[(3,0,1),(9,1,1),(9,2,1)]⟩:=by kernel_rfl
@[simp] theorem Xd:cfg.ti 77=some ⟨.struct (bN Tryz.prog 77),4,48,some [.int .i64 0,.str [],.str [],.int .i64 0],true,true,[(3,0,1),(9,1,1),(9,2,1),(3,3,1)]⟩:=by kernel_rfl
@[simp] theorem Xe:cfg.ti 79=some ⟨.struct (bN Tryz.prog 79),3,40,some [.int .i64 0,.str [],.str []],true,true,[(3,0,1),(9,1,1),(9,2,1)]⟩:=by kernel_rfl
-- type 81 left out
@[simp] theorem Tg:cfg.ti 82=some ⟨.map 28 4,1,8,some [.j8],false,true,[]⟩:=by kernel_rfl
-- type 83 left out
-- type 85 left out
-- type 86 left out
-- type 87 left out
-- type 88 left out
-- type 89 left out
-- type 90 left out
-- type 91 left out
-- type 92 left out
-- type 93 left out
-- type 94 left out
-- type 95 left out
-- type 96 left out
-- type 97 left out
-- type 98 left out
-- type 99 left out
@[simp] theorem UQ:cfg.ti 102=some ⟨.struct (bN Tryz.prog 102),2,32,some [.ah (some true) 0 [],.bool false],true,true,[(31,0,1),(4,1,1)]⟩:=by kernel_rfl
-- type 103 left out
-- type 105 left out
-- type 106 left out
-- type 107 left out
-- type 108 left out
-- type 109 left out
-- type 110 left out
-- type 111 left out
-- type 112 left out
-- type 113 left out
-- type 114 left out
-- type 115 left out
-- type 116 left out
-- type 117 left out
@[simp] theorem UR:cfg.ti 120=some ⟨.interface (match Tryz.prog.underlying 120 with | some (.interface ms)=>ms | _=> #[]),1,16,some [.gj false],false,false,[]⟩:=by kernel_rfl
-- type 122 left out
-- type 123 left out
-- type 124 left out
@[simp] theorem US:cfg.ti 130=some ⟨.slice 3,1,24,some [.ah (some true) 0 []],false,true,[]⟩:=by kernel_rfl
-- type 131 left out
-- type 132 left out
-- type 133 left out
-- type 134 left out
-- type 135 left out
-- type 136 left out
-- type 137 left out
-- type 138 left out
@[simp] theorem Ma:cfg.ti 139=some ⟨.map 3 9,1,8,some [.j8],false,true,[]⟩:=by kernel_rfl
@[simp] theorem Mb:cfg.ti 140=some ⟨.map 3 3,1,8,some [.j8],false,true,[]⟩:=by kernel_rfl
@[simp] theorem UT:cfg.ti 141=some ⟨.array 5 9,5,80,some [.str [],.str [],.str [],.str [],.str []],true,true,[]⟩:=by kernel_rfl
-- type 142 left out
-- type 143 left out
-- type 145 left out
-- type 146 left out
-- type 147 left out
-- type 148 left out
-- type 149 left out
-- type 151 left out
-- type 152 left out
-- type 153 left out
-- type 155 left out
@[simp] theorem UU:cfg.ti 156=some ⟨.pointer 159,1,8,some [.bS],false,true,[]⟩:=by kernel_rfl
@[simp] theorem UW:cfg.ti 157=some ⟨.slice 5,1,24,some [.ah (some true) 0 []],false,true,[]⟩:=by kernel_rfl
@[simp] theorem UX:cfg.ti 159=some ⟨.struct (bN Tryz.prog 159),2,32,some [.bS,.ah (some true) 0 []],true,true,[(156,0,1),(157,1,1)]⟩:=by kernel_rfl
-- type 161 left out
-- type 162 left out
-- type 163 left out
-- type 165 left out
-- type 166 left out
-- type 167 left out
-- type 168 left out
-- type 169 left out
@[simp] theorem UY:cfg.ti 192=some ⟨.pointer 5,1,8,some [.bS],false,true,[]⟩:=by kernel_rfl
@[simp] theorem UZ:cfg.ti 193=some ⟨.int .i64,1,8,some [.int .i64 0],false,true,[]⟩:=by kernel_rfl
@[simp] theorem U0:cfg.ti 199=some ⟨.struct (bN Tryz.prog 199),1,24,some [.ah (some true) 0 []],true,true,[(157,0,1)]⟩:=by kernel_rfl
-- type 200 left out
@[simp] theorem U1:cfg.ti 216=some ⟨.unsafePointer,1,8,some [.bS],false,true,[]⟩:=by kernel_rfl
-- type 217 left out
theorem WQ:cfg.fn.get none 0=some Tryz.f0:=by kernel_rfl
theorem Xw:cfg.fn.get none 2=some Tryz.f2:=by kernel_rfl
theorem XR:cfg.fn.get none 3=some Tryz.f3:=by kernel_rfl
theorem Wg:cfg.fn.get none 10=some Tryz.f10:=by kernel_rfl
theorem We:cfg.fn.get none 11=some Tryz.f11:=by kernel_rfl
theorem O1:cfg.fn.get none 12=some Tryz.f12:=by kernel_rfl
theorem Wf:cfg.fn.get none 13=some Tryz.f13:=by kernel_rfl
theorem PC:cfg.fn.get none 14=some Tryz.f14:=by kernel_rfl
theorem Wb:cfg.fn.get none 15=some Tryz.f15:=by kernel_rfl
theorem V5:cfg.fn.get none 16=some Tryz.f16:=by kernel_rfl
theorem Ws:cfg.fn.get none 17=some Tryz.f17:=by kernel_rfl
theorem VA:cfg.fn.get none 18=some Tryz.f18:=by kernel_rfl
theorem V9:cfg.fn.get none 19=some Tryz.f19:=by kernel_rfl
theorem Wa:cfg.fn.get none 21=some Tryz.f21:=by kernel_rfl
theorem Wd:cfg.fn.get none 24=some Tryz.f24:=by kernel_rfl
theorem Pw:cfg.fn.get none 36=some Tryz.f36:=by kernel_rfl
theorem Wc:cfg.fn.get none 37=some Tryz.f37:=by kernel_rfl
theorem Vy:cfg.fn.get none 38=some Tryz.f38:=by kernel_rfl
theorem NH:cfg.fn.get none 39=some Tryz.f39:=by kernel_rfl
theorem Vu:cfg.fn.get none 40=some Tryz.f40:=by kernel_rfl
theorem V0:cfg.fn.get none 41=some Tryz.f41:=by kernel_rfl
theorem V6:cfg.fn.get none 44=some Tryz.f44:=by kernel_rfl
theorem WO:cfg.fn.get none 45=some Tryz.f45:=by kernel_rfl
theorem WK:cfg.fn.get none 46=some Tryz.f46:=by kernel_rfl
theorem PQ:cfg.fn.get none 47=some Tryz.f47:=by kernel_rfl
theorem Wt:cfg.fn.get none 48=some Tryz.f48:=by kernel_rfl
theorem WI:cfg.fn.get none 49=some Tryz.f49:=by kernel_rfl
theorem VC:cfg.fn.get none 50=some Tryz.f50:=by kernel_rfl
theorem WE:cfg.fn.get none 51=some Tryz.f51:=by kernel_rfl
theorem Wv:cfg.fn.get none 52=some Tryz.f52:=by kernel_rfl
theorem Wr:cfg.fn.get none 53=some Tryz.f53:=by kernel_rfl
theorem WL:cfg.fn.get none 54=some Tryz.f54:=by kernel_rfl
theorem WM:cfg.fn.get none 55=some Tryz.f55:=by kernel_rfl
theorem Vp:cfg.fn.get none 56=some Tryz.f56:=by kernel_rfl
theorem Vl:cfg.fn.get none 57=some Tryz.f57:=by kernel_rfl
theorem Vo:cfg.fn.get none 58=some Tryz.f58:=by kernel_rfl
theorem Vr:cfg.fn.get none 59=some Tryz.f59:=by kernel_rfl
theorem Vw:cfg.fn.get none 60=some Tryz.f60:=by kernel_rfl
theorem Vz:cfg.fn.get none 61=some Tryz.f61:=by kernel_rfl
theorem Vv:cfg.fn.get none 62=some Tryz.f62:=by kernel_rfl
theorem V7:cfg.fn.get none 63=some Tryz.f63:=by kernel_rfl
theorem Ch:cfg.fn.get none 64=some Tryz.f64:=by kernel_rfl
theorem RN:cfg.fn.get none 65=some Tryz.f65:=by kernel_rfl
theorem VY:cfg.fn.get none 66=some Tryz.f66:=by kernel_rfl
theorem V8:cfg.fn.get none 67=some Tryz.f67:=by kernel_rfl
theorem Wq:cfg.fn.get none 71=some Tryz.f71:=by kernel_rfl
theorem WH:cfg.fn.get none 74=some Tryz.f74:=by kernel_rfl
theorem WG:cfg.fn.get none 75=some Tryz.f75:=by kernel_rfl
theorem Vx:cfg.fn.get none 77=some Tryz.f77:=by kernel_rfl
theorem VB:cfg.fn.get none 78=some Tryz.f78:=by kernel_rfl
theorem Vq:cfg.fn.get none 79=some Tryz.f79:=by kernel_rfl
theorem Vs:cfg.fn.get none 80=some Tryz.f80:=by kernel_rfl
theorem Vt:cfg.fn.get none 81=some Tryz.f81:=by kernel_rfl
theorem VZ:cfg.fn.get none 82=some Tryz.f82:=by kernel_rfl
theorem VE:cfg.fn.get none 83=some Tryz.f83:=by kernel_rfl
theorem VD:cfg.fn.get none 84=some Tryz.f84:=by kernel_rfl
theorem Vn:cfg.fn.get none 87=some Tryz.f87:=by kernel_rfl
theorem Vm:cfg.fn.get none 88=some Tryz.f88:=by kernel_rfl
theorem Wy:cfg.fn.get none 89=some Tryz.f89:=by kernel_rfl
theorem Wz:cfg.fn.get none 90=some Tryz.f90:=by kernel_rfl
theorem WA:cfg.fn.get none 91=some Tryz.f91:=by kernel_rfl
theorem WN:cfg.fn.get none 92=some Tryz.f92:=by kernel_rfl
theorem UC:cfg.fn.get none 93=some Tryz.f93:=by kernel_rfl
theorem WJ:cfg.fn.get none 94=some Tryz.f94:=by kernel_rfl
theorem WC:cfg.fn.get none 95=some Tryz.f95:=by kernel_rfl
theorem WB:cfg.fn.get none 96=some Tryz.f96:=by kernel_rfl
theorem Ww:cfg.fn.get none 97=some Tryz.f97:=by kernel_rfl
theorem Wx:cfg.fn.get none 98=some Tryz.f98:=by kernel_rfl
theorem WD:cfg.fn.get none 99=some Tryz.f99:=by kernel_rfl
theorem TE:cfg.fn.get none 100=some Tryz.f100:=by kernel_rfl
theorem Us:cfg.fn.get none 102=some Tryz.f102:=by kernel_rfl
theorem Ut:cfg.fn.get none 103=some Tryz.f103:=by kernel_rfl
theorem Rj:cfg.fn.get none 104=some Tryz.f104:=by kernel_rfl
theorem Rk:cfg.fn.get none 105=some Tryz.f105:=by kernel_rfl
theorem Rr:cfg.fn.get none 106=some Tryz.f106:=by kernel_rfl
theorem Q6:cfg.fn.get none 107=some Tryz.f107:=by kernel_rfl
theorem Rn:cfg.fn.get none 108=some Tryz.f108:=by kernel_rfl
theorem Ro:cfg.fn.get none 109=some Tryz.f109:=by kernel_rfl
theorem RM:cfg.fn.get none 110=some Tryz.f110:=by kernel_rfl
theorem RO:cfg.fn.get none 111=some Tryz.f111:=by kernel_rfl
theorem Rw:cfg.fn.get none 112=some Tryz.f112:=by kernel_rfl
theorem Rv:cfg.fn.get none 113=some Tryz.f113:=by kernel_rfl
theorem Tv:cfg.fn.get none 114=some Tryz.f114:=by kernel_rfl
theorem Tu:cfg.fn.get none 115=some Tryz.f115:=by kernel_rfl
theorem Tl:cfg.fn.get none 116=some Tryz.f116:=by kernel_rfl
theorem Tp:cfg.fn.get none 117=some Tryz.f117:=by kernel_rfl
theorem Tn:cfg.fn.get none 118=some Tryz.f118:=by kernel_rfl
theorem Tj:cfg.fn.get none 119=some Tryz.f119:=by kernel_rfl
theorem TH:cfg.fn.get none 121=some Tryz.f121:=by kernel_rfl
theorem Tq:cfg.fn.get none 122=some Tryz.f122:=by kernel_rfl
theorem Th:cfg.fn.get none 125=some Tryz.f125:=by kernel_rfl
theorem Rz:cfg.fn.get none 126=some Tryz.f126:=by kernel_rfl
theorem RB:cfg.fn.get none 127=some Tryz.f127:=by kernel_rfl
theorem LZ:cfg.fn.get none 128=some Tryz.f128:=by kernel_rfl
theorem RC:cfg.fn.get none 131=some Tryz.f131:=by kernel_rfl
theorem L6:cfg.fn.get none 132=some Tryz.f132:=by kernel_rfl
theorem Tb:cfg.fn.get none 134=some Tryz.f134:=by kernel_rfl
theorem TC:cfg.fn.get none 135=some Tryz.f135:=by kernel_rfl
theorem Q9:cfg.fn.get none 146=some Tryz.f146:=by kernel_rfl
theorem UB:cfg.fn.get none 147=some Tryz.f147:=by kernel_rfl
theorem Up:cfg.fn.get none 148=some Tryz.f148:=by kernel_rfl
theorem Uc:cfg.fn.get none 149=some Tryz.f149:=by kernel_rfl
theorem Ud:cfg.fn.get none 150=some Tryz.f150:=by kernel_rfl
theorem Ug:cfg.fn.get none 151=some Tryz.f151:=by kernel_rfl
theorem TD:cfg.fn.get none 152=some Tryz.f152:=by kernel_rfl
theorem Ri:cfg.fn.get none 154=some Tryz.f154:=by kernel_rfl
theorem Rc:cfg.fn.get none 155=some Tryz.f155:=by kernel_rfl
theorem Q8:cfg.fn.get none 156=some Tryz.f156:=by kernel_rfl
theorem Rm:cfg.fn.get none 157=some Tryz.f157:=by kernel_rfl
theorem RJ:cfg.fn.get none 158=some Tryz.f158:=by kernel_rfl
theorem Tk:cfg.fn.get none 159=some Tryz.f159:=by kernel_rfl
theorem To:cfg.fn.get none 160=some Tryz.f160:=by kernel_rfl
theorem Tm:cfg.fn.get none 161=some Tryz.f161:=by kernel_rfl
theorem Ti:cfg.fn.get none 162=some Tryz.f162:=by kernel_rfl
theorem TG:cfg.fn.get none 165=some Tryz.f165:=by kernel_rfl
theorem Ry:cfg.fn.get none 167=some Tryz.f167:=by kernel_rfl
theorem RG:cfg.fn.get none 170=some Tryz.f170:=by kernel_rfl
theorem Ta:cfg.fn.get none 176=some Tryz.f176:=by kernel_rfl
theorem TB:cfg.fn.get none 177=some Tryz.f177:=by kernel_rfl
theorem Rb:cfg.fn.get none 184=some Tryz.f184:=by kernel_rfl
theorem TF:cfg.fn.get none 187=some Tryz.f187:=by kernel_rfl
end Go.Proofs.YtfnkchadeaedlaaGreatDoor
