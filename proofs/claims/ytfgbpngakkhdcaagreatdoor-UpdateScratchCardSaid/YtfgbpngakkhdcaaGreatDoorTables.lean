/- What the machine's tables hold: -/
import Derived.Test.YtfgbpngakkhdcaaGreatDoorAmIr7
import Derived.Test.YtfgbpngakkhdcaaGreatDoorSeatC
set_option linter.all false
namespace Go.Proofs.YtfgbpngakkhdcaaGreatDoor
open Go.Am
@[simp] theorem YG (f:FuncId):cfg.ext f=exts f:=rfl
@[simp] theorem ZN (f:FuncId):cfg.ov f=GF f:=rfl
@[simp] theorem YH (f:FuncId):cfg.EC f=qV f:=rfl
@[simp] theorem YI (f:FuncId):cfg.own f=OQ f:=rfl
@[simp] theorem YJ:cfg.cut=true:=rfl
@[simp] theorem YK (f:FuncId):cfg.ED f=OR f:=rfl
@[simp] theorem YL (f:FuncId):cfg.qg f=I8 f:=rfl
@[simp] theorem Xv (f:FuncId):cfg.iW f=iW f:=rfl
attribute [simp] exts GF OQ iW qV OR I8 -- type 1 left out
@[simp] theorem ti3:cfg.ti 3=some ⟨.int .i64,1,8,some [.int .i64 0],false,true,[]⟩:=by kernel_rfl
@[simp] theorem ti4:cfg.ti 4=some ⟨.bool,1,1,some [.bool false],false,true,[]⟩:=by kernel_rfl
@[simp] theorem ti5:cfg.ti 5=some ⟨.int .u8,1,1,some [.int .u8 0],false,true,[]⟩:=by kernel_rfl
@[simp] theorem ti9:cfg.ti 9=some ⟨.string,1,16,some [.str []],false,true,[]⟩:=by kernel_rfl
@[simp] theorem ZO:cfg.ti 20=some ⟨.interface (match Tryz.prog.underlying 20 with | some (.interface ms)=>ms | _=> #[]),1,16,some [.gR false],false,true,[]⟩:=by kernel_rfl
@[simp] theorem ZP:cfg.ti 22=some ⟨.slice 9,1,24,some [.ag (some true) 0 []],false,true,[]⟩:=by kernel_rfl
@[simp] theorem ZQ:cfg.ti 23=some ⟨.slice 80,1,24,some [.ag (some true) 0 []],false,true,[]⟩:=by kernel_rfl
@[simp] theorem ZR:cfg.ti 24=some ⟨.slice 74,1,24,some [.ag (some true) 0 []],false,true,[]⟩:=by kernel_rfl
@[simp] theorem ZS:cfg.ti 26=some ⟨.struct (bL Tryz.prog 26),3,72,some [.ag (some true) 0 [],.ag (some true) 0 [],.ag (some true) 0 []],true,true,[(22,0,1),(23,1,1),(24,2,1)]⟩:=by kernel_rfl
-- type 27 left out
-- type 28 left out
@[simp] theorem ZT:cfg.ti 29=some ⟨.slice 60,1,24,some [.ag (some true) 0 []],false,true,[]⟩:=by kernel_rfl
@[simp] theorem ZU:cfg.ti 31=some ⟨.struct (bL Tryz.prog 31),3,48,some [.int .i64 0,.str [],.ag (some true) 0 []],true,true,[(3,0,1),(9,1,1),(29,2,1)]⟩:=by kernel_rfl
@[simp] theorem ZV:cfg.ti 32=some ⟨.int .i64,1,8,some [.int .i64 0],false,true,[]⟩:=by kernel_rfl
-- type 34 left out
-- type 35 left out
-- type 36 left out
-- type 37 left out
-- type 38 left out
@[simp] theorem ZW:cfg.ti 39=some ⟨.slice 3,1,24,some [.ag (some true) 0 []],false,true,[]⟩:=by kernel_rfl
-- type 41 left out
-- type 42 left out
-- type 43 left out
-- type 44 left out
-- type 45 left out
@[simp] theorem ZX:cfg.ti 46=some ⟨.slice 26,1,24,some [.ag (some true) 0 []],false,true,[]⟩:=by kernel_rfl
@[simp] theorem ZY:cfg.ti 47=some ⟨.slice 58,1,24,some [.ag (some true) 0 []],false,true,[]⟩:=by kernel_rfl
@[simp] theorem ZZ:cfg.ti 49=some ⟨.struct (bL Tryz.prog 49),3,48,some [.int .i64 0,.str [],.ag (some true) 0 []],true,true,[(3,0,1),(9,1,1),(47,2,1)]⟩:=by kernel_rfl
-- type 51 left out
-- type 52 left out
-- type 53 left out
-- type 54 left out
@[simp] theorem Z0:cfg.ti 55=some ⟨.slice 99,1,24,some [.ag (some true) 0 []],false,true,[]⟩:=by kernel_rfl
@[simp] theorem Z1:cfg.ti 56=some ⟨.slice 129,1,24,some [.ag (some true) 0 []],false,true,[]⟩:=by kernel_rfl
@[simp] theorem Z2:cfg.ti 58=some ⟨.struct (bL Tryz.prog 58),3,48,some [.int .i64 0,.str [],.ag (some true) 0 []],true,true,[(3,0,1),(9,1,1),(56,2,1)]⟩:=by kernel_rfl
@[simp] theorem Z3:cfg.ti 60=some ⟨.struct (bL Tryz.prog 60),4,72,some [.ag (some true) 0 [],.int .i64 0,.str [],.ag (some true) 0 []],true,true,[(55,0,1),(58,1,3)]⟩:=by kernel_rfl
-- type 61 left out
-- type 62 left out
-- type 63 left out
-- type 64 left out
@[simp] theorem Z4:cfg.ti 65=some ⟨.slice 78,1,24,some [.ag (some true) 0 []],false,true,[]⟩:=by kernel_rfl
-- type 66 left out
-- type 67 left out
-- type 68 left out
-- type 69 left out
-- type 70 left out
-- type 71 left out
@[simp] theorem Z5:cfg.ti 72=some ⟨.slice 76,1,24,some [.ag (some true) 0 []],false,true,[]⟩:=by kernel_rfl
@[simp] theorem Z6:cfg.ti 74=some ⟨.struct (bL Tryz.prog 74),6,80,some [.int .i64 0,.int .i64 0,.int .i64 0,.str [],.str [],.ag (some true) 0 []],true,true,[(3,0,1),(3,1,1),(3,2,1),(9,3,1),(9,4,1),(72,5,1)]⟩:=by kernel_rfl
@[simp] theorem Z7:cfg.ti 76=some ⟨.struct (bL Tryz.prog 76),3,40,some [.int .i64 0,.str [],.str []],true,true,[(3,0,1),(9,1,1),(9,2,1)]⟩:=by kernel_rfl
@[simp] theorem Z8:cfg.ti 78=some ⟨.struct (bL Tryz.prog 78),2,16,some [.int .i64 0,.int .i64 0],true,true,[(3,0,1),(3,1,1)]⟩:=by kernel_rfl
@[simp] theorem Z9:cfg.ti 80=some ⟨.struct (bL Tryz.prog 80),4,48,some [.int .i64 0,.str [],.str [],.int .i64 0],true,true,[(3,0,1),(9,1,1),(9,2,1),(3,3,1)]⟩:=by kernel_rfl
-- type 81 left out
-- type 82 left out
-- type 83 left out
-- type 84 left out
-- type 85 left out
@[simp] theorem Xw:cfg.ti 86=some ⟨.map 3 4,1,8,some [.kc],false,true,[]⟩:=by kernel_rfl
-- type 88 left out
-- type 89 left out
-- type 90 left out
-- type 91 left out
-- type 92 left out
-- type 93 left out
-- type 94 left out
-- type 95 left out
-- type 96 left out
-- type 97 left out
@[simp] theorem aaa:cfg.ti 99=some ⟨.struct (bL Tryz.prog 99),3,32,some [.int .i64 0,.int .i64 0,.str []],true,true,[(78,0,2),(9,2,1)]⟩:=by kernel_rfl
-- type 100 left out
@[simp] theorem Ln:cfg.ti 101=some ⟨.map 78 4,1,8,some [.kc],false,true,[]⟩:=by kernel_rfl
-- type 102 left out
-- type 103 left out
-- type 104 left out
-- type 105 left out
-- type 106 left out
-- type 107 left out
-- type 108 left out
-- type 109 left out
@[simp] theorem Mf:cfg.ti 110=some ⟨.map 3 60,1,8,some [.kc],false,true,[]⟩:=by kernel_rfl
-- type 112 left out
-- type 114 left out
-- type 115 left out
-- type 116 left out
-- type 117 left out
-- type 118 left out
-- type 119 left out
-- type 120 left out
-- type 121 left out
-- type 123 left out
-- type 125 left out
-- type 126 left out
-- type 127 left out
@[simp] theorem Xx:cfg.ti 129=some ⟨.struct (bL Tryz.prog 129),3,40,some [.int .i64 0,.str [],.str []],true,true,[(3,0,1),(9,1,1),(9,2,1)]⟩:=by kernel_rfl
-- type 130 left out
-- type 131 left out
-- type 132 left out
-- type 133 left out
@[simp] theorem Pf:cfg.ti 134=some ⟨.map 3 9,1,8,some [.kc],false,true,[]⟩:=by kernel_rfl
@[simp] theorem Pg:cfg.ti 135=some ⟨.map 3 3,1,8,some [.kc],false,true,[]⟩:=by kernel_rfl
-- type 136 left out
@[simp] theorem Xy:cfg.ti 137=some ⟨.array 5 9,5,80,some [.str [],.str [],.str [],.str [],.str []],true,true,[]⟩:=by kernel_rfl
-- type 138 left out
-- type 139 left out
-- type 140 left out
-- type 141 left out
-- type 142 left out
-- type 143 left out
-- type 144 left out
-- type 145 left out
-- type 146 left out
-- type 147 left out
@[simp] theorem Xz:cfg.ti 166=some ⟨.struct (bL Tryz.prog 166),2,32,some [.ag (some true) 0 [],.bool false],true,true,[(55,0,1),(4,1,1)]⟩:=by kernel_rfl
-- type 167 left out
-- type 168 left out
-- type 170 left out
-- type 171 left out
-- type 172 left out
-- type 173 left out
-- type 174 left out
@[simp] theorem XA:cfg.ti 175=some ⟨.pointer 178,1,8,some [.bZ],false,true,[]⟩:=by kernel_rfl
@[simp] theorem XB:cfg.ti 176=some ⟨.slice 5,1,24,some [.ag (some true) 0 []],false,true,[]⟩:=by kernel_rfl
@[simp] theorem XC:cfg.ti 178=some ⟨.struct (bL Tryz.prog 178),2,32,some [.bZ,.ag (some true) 0 []],true,true,[(175,0,1),(176,1,1)]⟩:=by kernel_rfl
@[simp] theorem XD:cfg.ti 180=some ⟨.interface (match Tryz.prog.underlying 180 with | some (.interface ms)=>ms | _=> #[]),1,16,some [.gR false],false,false,[]⟩:=by kernel_rfl
-- type 182 left out
-- type 183 left out
-- type 184 left out
-- type 185 left out
-- type 186 left out
@[simp] theorem XE:cfg.ti 215=some ⟨.pointer 5,1,8,some [.bZ],false,true,[]⟩:=by kernel_rfl
@[simp] theorem XF:cfg.ti 218=some ⟨.struct (bL Tryz.prog 218),1,24,some [.ag (some true) 0 []],true,true,[(176,0,1)]⟩:=by kernel_rfl
-- type 219 left out
@[simp] theorem XG:cfg.ti 245=some ⟨.unsafePointer,1,8,some [.bZ],false,true,[]⟩:=by kernel_rfl
-- type 246 left out
@[simp] theorem XH:cfg.ti 249=some ⟨.int .i64,1,8,some [.int .i64 0],false,true,[]⟩:=by kernel_rfl
theorem Zv:cfg.fn.get none 0=some Tryz.f0:=by kernel_rfl
theorem fn2:cfg.fn.get none 2=some Tryz.f2:=by kernel_rfl
theorem fn5:cfg.fn.get none 5=some Tryz.f5:=by kernel_rfl
theorem fn6:cfg.fn.get none 6=some Tryz.f6:=by kernel_rfl
theorem fn7:cfg.fn.get none 7=some Tryz.f7:=by kernel_rfl
theorem fn8:cfg.fn.get none 8=some Tryz.f8:=by kernel_rfl
theorem fn9:cfg.fn.get none 9=some Tryz.f9:=by kernel_rfl
theorem ZE:cfg.fn.get none 10=some Tryz.f10:=by kernel_rfl
theorem XI:cfg.fn.get none 11=some Tryz.f11:=by kernel_rfl
theorem ZF:cfg.fn.get none 12=some Tryz.f12:=by kernel_rfl
theorem aab:cfg.fn.get none 14=some Tryz.f14:=by kernel_rfl
theorem XJ:cfg.fn.get none 16=some Tryz.f16:=by kernel_rfl
theorem aac:cfg.fn.get none 17=some Tryz.f17:=by kernel_rfl
theorem aad:cfg.fn.get none 19=some Tryz.f19:=by kernel_rfl
theorem aae:cfg.fn.get none 21=some Tryz.f21:=by kernel_rfl
theorem Y9:cfg.fn.get none 22=some Tryz.f22:=by kernel_rfl
theorem ZM:cfg.fn.get none 23=some Tryz.f23:=by kernel_rfl
theorem aaf:cfg.fn.get none 24=some Tryz.f24:=by kernel_rfl
theorem aag:cfg.fn.get none 25=some Tryz.f25:=by kernel_rfl
theorem ZH:cfg.fn.get none 26=some Tryz.f26:=by kernel_rfl
theorem Zw:cfg.fn.get none 27=some Tryz.f27:=by kernel_rfl
theorem ZB:cfg.fn.get none 28=some Tryz.f28:=by kernel_rfl
theorem aah:cfg.fn.get none 29=some Tryz.f29:=by kernel_rfl
theorem aai:cfg.fn.get none 30=some Tryz.f30:=by kernel_rfl
theorem aaj:cfg.fn.get none 31=some Tryz.f31:=by kernel_rfl
theorem ZJ:cfg.fn.get none 32=some Tryz.f32:=by kernel_rfl
theorem aak:cfg.fn.get none 33=some Tryz.f33:=by kernel_rfl
theorem SG:cfg.fn.get none 34=some Tryz.f34:=by kernel_rfl
theorem XK:cfg.fn.get none 35=some Tryz.f35:=by kernel_rfl
theorem Zx:cfg.fn.get none 38=some Tryz.f38:=by kernel_rfl
theorem Zz:cfg.fn.get none 39=some Tryz.f39:=by kernel_rfl
theorem aal:cfg.fn.get none 43=some Tryz.f43:=by kernel_rfl
theorem YX:cfg.fn.get none 46=some Tryz.f46:=by kernel_rfl
theorem YN:cfg.fn.get none 47=some Tryz.f47:=by kernel_rfl
theorem YU:cfg.fn.get none 48=some Tryz.f48:=by kernel_rfl
theorem Y4:cfg.fn.get none 49=some Tryz.f49:=by kernel_rfl
theorem YV:cfg.fn.get none 50=some Tryz.f50:=by kernel_rfl
theorem Y8:cfg.fn.get none 51=some Tryz.f51:=by kernel_rfl
theorem Y7:cfg.fn.get none 52=some Tryz.f52:=by kernel_rfl
theorem aam:cfg.fn.get none 53=some Tryz.f53:=by kernel_rfl
theorem Za:cfg.fn.get none 54=some Tryz.f54:=by kernel_rfl
theorem Zs:cfg.fn.get none 55=some Tryz.f55:=by kernel_rfl
theorem Zt:cfg.fn.get none 56=some Tryz.f56:=by kernel_rfl
theorem YP:cfg.fn.get none 59=some Tryz.f59:=by kernel_rfl
theorem YO:cfg.fn.get none 60=some Tryz.f60:=by kernel_rfl
theorem aan:cfg.fn.get none 61=some Tryz.f61:=by kernel_rfl
theorem aao:cfg.fn.get none 62=some Tryz.f62:=by kernel_rfl
theorem ZA:cfg.fn.get none 63=some Tryz.f63:=by kernel_rfl
theorem Ur:cfg.fn.get none 64=some Tryz.f64:=by kernel_rfl
theorem aap:cfg.fn.get none 65=some Tryz.f65:=by kernel_rfl
theorem Zu:cfg.fn.get none 66=some Tryz.f66:=by kernel_rfl
theorem Zy:cfg.fn.get none 74=some Tryz.f74:=by kernel_rfl
theorem WR:cfg.fn.get none 76=some Tryz.f76:=by kernel_rfl
theorem aaq:cfg.fn.get none 77=some Tryz.f77:=by kernel_rfl
theorem aar:cfg.fn.get none 79=some Tryz.f79:=by kernel_rfl
theorem YQ:cfg.fn.get none 86=some Tryz.f86:=by kernel_rfl
theorem YR:cfg.fn.get none 87=some Tryz.f87:=by kernel_rfl
theorem YW:cfg.fn.get none 88=some Tryz.f88:=by kernel_rfl
theorem YM:cfg.fn.get none 89=some Tryz.f89:=by kernel_rfl
theorem YS:cfg.fn.get none 90=some Tryz.f90:=by kernel_rfl
theorem YT:cfg.fn.get none 91=some Tryz.f91:=by kernel_rfl
theorem U8:cfg.fn.get none 93=some Tryz.f93:=by kernel_rfl
theorem YY:cfg.fn.get none 94=some Tryz.f94:=by kernel_rfl
theorem Y5:cfg.fn.get none 95=some Tryz.f95:=by kernel_rfl
theorem Y6:cfg.fn.get none 96=some Tryz.f96:=by kernel_rfl
theorem Y0:cfg.fn.get none 97=some Tryz.f97:=by kernel_rfl
theorem YZ:cfg.fn.get none 98=some Tryz.f98:=by kernel_rfl
theorem aas:cfg.fn.get none 99=some Tryz.f99:=by kernel_rfl
theorem XL:cfg.fn.get none 100=some Tryz.f100:=by kernel_rfl
theorem Ve:cfg.fn.get none 101=some Tryz.f101:=by kernel_rfl
theorem Ww:cfg.fn.get none 102=some Tryz.f102:=by kernel_rfl
theorem Vl:cfg.fn.get none 103=some Tryz.f103:=by kernel_rfl
theorem Vk:cfg.fn.get none 104=some Tryz.f104:=by kernel_rfl
theorem Us:cfg.fn.get none 107=some Tryz.f107:=by kernel_rfl
theorem XM:cfg.fn.get none 108=some Tryz.f108:=by kernel_rfl
theorem Xf:cfg.fn.get none 109=some Tryz.f109:=by kernel_rfl
theorem XO:cfg.fn.get none 110=some Tryz.f110:=by kernel_rfl
theorem XP:cfg.fn.get none 111=some Tryz.f111:=by kernel_rfl
theorem JX:cfg.fn.get none 112=some Tryz.f112:=by kernel_rfl
theorem U5:cfg.fn.get none 113=some Tryz.f113:=by kernel_rfl
theorem WB:cfg.fn.get none 116=some Tryz.f116:=by kernel_rfl
theorem PT:cfg.fn.get none 132=some Tryz.f132:=by kernel_rfl
theorem vc:cfg.fn.get none 133=some Tryz.f133:=by kernel_rfl
theorem Vo:cfg.fn.get none 134=some Tryz.f134:=by kernel_rfl
theorem WE:cfg.fn.get none 135=some Tryz.f135:=by kernel_rfl
theorem XQ:cfg.fn.get none 136=some Tryz.f136:=by kernel_rfl
theorem UA:cfg.fn.get none 139=some Tryz.f139:=by kernel_rfl
theorem Uv:cfg.fn.get none 140=some Tryz.f140:=by kernel_rfl
theorem UD:cfg.fn.get none 141=some Tryz.f141:=by kernel_rfl
theorem WG:cfg.fn.get none 145=some Tryz.f145:=by kernel_rfl
theorem U4:cfg.fn.get none 146=some Tryz.f146:=by kernel_rfl
theorem UL:cfg.fn.get none 147=some Tryz.f147:=by kernel_rfl
theorem UM:cfg.fn.get none 148=some Tryz.f148:=by kernel_rfl
theorem Pd:cfg.fn.get none 149=some Tryz.f149:=by kernel_rfl
theorem Vd:cfg.fn.get none 150=some Tryz.f150:=by kernel_rfl
theorem Vn:cfg.fn.get none 151=some Tryz.f151:=by kernel_rfl
theorem WT:cfg.fn.get none 152=some Tryz.f152:=by kernel_rfl
theorem Vi:cfg.fn.get none 153=some Tryz.f153:=by kernel_rfl
theorem U0:cfg.fn.get none 164=some Tryz.f164:=by kernel_rfl
theorem U3:cfg.fn.get none 165=some Tryz.f165:=by kernel_rfl
theorem WD:cfg.fn.get none 174=some Tryz.f174:=by kernel_rfl
theorem WC:cfg.fn.get none 175=some Tryz.f175:=by kernel_rfl
theorem WK:cfg.fn.get none 176=some Tryz.f176:=by kernel_rfl
theorem WO:cfg.fn.get none 177=some Tryz.f177:=by kernel_rfl
theorem WM:cfg.fn.get none 178=some Tryz.f178:=by kernel_rfl
theorem WI:cfg.fn.get none 179=some Tryz.f179:=by kernel_rfl
theorem WX:cfg.fn.get none 181=some Tryz.f181:=by kernel_rfl
theorem WQ:cfg.fn.get none 182=some Tryz.f182:=by kernel_rfl
theorem Uu:cfg.fn.get none 184=some Tryz.f184:=by kernel_rfl
theorem UK:cfg.fn.get none 187=some Tryz.f187:=by kernel_rfl
theorem Vm:cfg.fn.get none 188=some Tryz.f188:=by kernel_rfl
theorem WS:cfg.fn.get none 189=some Tryz.f189:=by kernel_rfl
theorem UZ:cfg.fn.get none 195=some Tryz.f195:=by kernel_rfl
theorem Pl:cfg.fn.get none 196=some Tryz.f196:=by kernel_rfl
theorem WJ:cfg.fn.get none 207=some Tryz.f207:=by kernel_rfl
theorem WN:cfg.fn.get none 208=some Tryz.f208:=by kernel_rfl
theorem WL:cfg.fn.get none 209=some Tryz.f209:=by kernel_rfl
theorem WH:cfg.fn.get none 210=some Tryz.f210:=by kernel_rfl
theorem WV:cfg.fn.get none 213=some Tryz.f213:=by kernel_rfl
theorem U1:cfg.fn.get none 225=some Tryz.f225:=by kernel_rfl
theorem WU:cfg.fn.get none 236=some Tryz.f236:=by kernel_rfl
end Go.Proofs.YtfgbpngakkhdcaaGreatDoor
