/- What the machine's tables hold: -/
import Derived.Test.YtfgbpngakkhdcaaGreatDoorSeatC
open Bool renaming false->d,true->c
open Go renaming FuncId->e
open Option renaming none->b,some->a
set_option linter.all false
namespace Go.Proofs.YtfgbpngakkhdcaaGreatDoor
open Go.Proofs.Tryz
open Go.Am
@[simp] theorem ac6 (f:e):cfg.ext f=exts f:=rfl
@[simp] theorem aes (f:e):cfg.ov f=L5 f:=rfl
@[simp] theorem ac7 (f:e):cfg.GN f=wL f:=rfl
@[simp] theorem ac8 (f:e):cfg.own f=RO f:=rfl
@[simp] theorem ac9:cfg.cut=true:=rfl
@[simp] theorem ada (f:e):cfg.GO f=RP f:=rfl
@[simp] theorem adb (f:e):cfg.rH f=Lz f:=rfl
@[simp] theorem abL (f:e):cfg.kg f=kg f:=rfl
attribute [simp] exts L5 RO kg wL RP Lz -- type 1 left out
@[simp] theorem ti3:cfg.ti 3=a ⟨.int .i64,1,8,a [.int .i64 0],d,c,[]⟩:=by kernel_rfl
@[simp] theorem ti4:cfg.ti 4=a ⟨.bool,1,1,a [.bool d],d,c,[]⟩:=by kernel_rfl
@[simp] theorem ti5:cfg.ti 5=a ⟨.int .u8,1,1,a [.int .u8 0],d,c,[]⟩:=by kernel_rfl
@[simp] theorem ti9:cfg.ti 9=a ⟨.string,1,16,a [.str []],d,c,[]⟩:=by kernel_rfl
@[simp] theorem aet:cfg.ti 20=a ⟨.interface (match Tryz.prog.underlying 20 with | some (.interface ms)=>ms | _=> #[]),1,16,a [.il d],d,c,[]⟩:=by kernel_rfl
@[simp] theorem aeu:cfg.ti 22=a ⟨.slice 9,1,24,a [.ah (a c) 0 []],d,c,[]⟩:=by kernel_rfl
@[simp] theorem aev:cfg.ti 23=a ⟨.slice 80,1,24,a [.ah (a c) 0 []],d,c,[]⟩:=by kernel_rfl
@[simp] theorem aew:cfg.ti 24=a ⟨.slice 74,1,24,a [.ah (a c) 0 []],d,c,[]⟩:=by kernel_rfl
@[simp] theorem aex:cfg.ti 26=a ⟨.struct (aG Tryz.prog 26),3,72,a [.ah (a c) 0 [],.ah (a c) 0 [],.ah (a c) 0 []],c,c,[(22,0,1),(23,1,1),(24,2,1)]⟩:=by kernel_rfl
@[simp] theorem aey:cfg.ti 29=a ⟨.slice 60,1,24,a [.ah (a c) 0 []],d,c,[]⟩:=by kernel_rfl
@[simp] theorem aez:cfg.ti 31=a ⟨.struct (aG Tryz.prog 31),3,48,a [.int .i64 0,.str [],.ah (a c) 0 []],c,c,[(3,0,1),(9,1,1),(29,2,1)]⟩:=by kernel_rfl
@[simp] theorem aeA:cfg.ti 32=a ⟨.int .i64,1,8,a [.int .i64 0],d,c,[]⟩:=by kernel_rfl
@[simp] theorem aeB:cfg.ti 39=a ⟨.slice 3,1,24,a [.ah (a c) 0 []],d,c,[]⟩:=by kernel_rfl
@[simp] theorem aeC:cfg.ti 46=a ⟨.slice 26,1,24,a [.ah (a c) 0 []],d,c,[]⟩:=by kernel_rfl
@[simp] theorem aeD:cfg.ti 47=a ⟨.slice 58,1,24,a [.ah (a c) 0 []],d,c,[]⟩:=by kernel_rfl
@[simp] theorem aeE:cfg.ti 49=a ⟨.struct (aG Tryz.prog 49),3,48,a [.int .i64 0,.str [],.ah (a c) 0 []],c,c,[(3,0,1),(9,1,1),(47,2,1)]⟩:=by kernel_rfl
@[simp] theorem aeF:cfg.ti 55=a ⟨.slice 99,1,24,a [.ah (a c) 0 []],d,c,[]⟩:=by kernel_rfl
@[simp] theorem aeG:cfg.ti 56=a ⟨.slice 129,1,24,a [.ah (a c) 0 []],d,c,[]⟩:=by kernel_rfl
@[simp] theorem aeH:cfg.ti 57=a ⟨.struct (aG Tryz.prog 57),3,48,a [.int .i64 0,.str [],.ah (a c) 0 []],c,c,[(3,0,1),(9,1,1),(56,2,1)]⟩:=by kernel_rfl
@[simp] theorem aeI:cfg.ti 58=a ⟨.struct (aG Tryz.prog 58),3,48,a [.int .i64 0,.str [],.ah (a c) 0 []],c,c,[(3,0,1),(9,1,1),(56,2,1)]⟩:=by kernel_rfl
@[simp] theorem aeJ:cfg.ti 60=a ⟨.struct (aG Tryz.prog 60),4,72,a [.ah (a c) 0 [],.int .i64 0,.str [],.ah (a c) 0 []],c,c,[(55,0,1),(58,1,3)]⟩:=by kernel_rfl
@[simp] theorem aeK:cfg.ti 65=a ⟨.slice 78,1,24,a [.ah (a c) 0 []],d,c,[]⟩:=by kernel_rfl
@[simp] theorem aeL:cfg.ti 72=a ⟨.slice 76,1,24,a [.ah (a c) 0 []],d,c,[]⟩:=by kernel_rfl
@[simp] theorem aeM:cfg.ti 73=a ⟨.struct (aG Tryz.prog 73),6,80,a [.int .i64 0,.int .i64 0,.int .i64 0,.str [],.str [],.ah (a c) 0 []],c,c,[(3,0,1),(3,1,1),(3,2,1),(9,3,1),(9,4,1),(72,5,1)]⟩:=by kernel_rfl
@[simp] theorem aeN:cfg.ti 74=a ⟨.struct (aG Tryz.prog 74),6,80,a [.int .i64 0,.int .i64 0,.int .i64 0,.str [],.str [],.ah (a c) 0 []],c,c,[(3,0,1),(3,1,1),(3,2,1),(9,3,1),(9,4,1),(72,5,1)]⟩:=by kernel_rfl
@[simp] theorem aeO:cfg.ti 75=a ⟨.struct (aG Tryz.prog 75),3,40,a [.int .i64 0,.str [],.str []],c,c,[(3,0,1),(9,1,1),(9,2,1)]⟩:=by kernel_rfl
@[simp] theorem aeP:cfg.ti 76=a ⟨.struct (aG Tryz.prog 76),3,40,a [.int .i64 0,.str [],.str []],c,c,[(3,0,1),(9,1,1),(9,2,1)]⟩:=by kernel_rfl
@[simp] theorem aeQ:cfg.ti 77=a ⟨.struct (aG Tryz.prog 77),2,16,a [.int .i64 0,.int .i64 0],c,c,[(3,0,1),(3,1,1)]⟩:=by kernel_rfl
@[simp] theorem aeR:cfg.ti 78=a ⟨.struct (aG Tryz.prog 78),2,16,a [.int .i64 0,.int .i64 0],c,c,[(3,0,1),(3,1,1)]⟩:=by kernel_rfl
@[simp] theorem aeS:cfg.ti 79=a ⟨.struct (aG Tryz.prog 79),4,48,a [.int .i64 0,.str [],.str [],.int .i64 0],c,c,[(3,0,1),(9,1,1),(9,2,1),(3,3,1)]⟩:=by kernel_rfl
@[simp] theorem aeT:cfg.ti 80=a ⟨.struct (aG Tryz.prog 80),4,48,a [.int .i64 0,.str [],.str [],.int .i64 0],c,c,[(3,0,1),(9,1,1),(9,2,1),(3,3,1)]⟩:=by kernel_rfl
@[simp] theorem abM:cfg.ti 86=a ⟨.map 3 4,1,8,a [.jZ],d,c,[]⟩:=by kernel_rfl
@[simp] theorem aeU:cfg.ti 99=a ⟨.struct (aG Tryz.prog 99),3,32,a [.int .i64 0,.int .i64 0,.str []],c,c,[(78,0,2),(9,2,1)]⟩:=by kernel_rfl
@[simp] theorem N9:cfg.ti 101=a ⟨.map 78 4,1,8,a [.jZ],d,c,[]⟩:=by kernel_rfl
@[simp] theorem Pe:cfg.ti 110=a ⟨.map 3 60,1,8,a [.jZ],d,c,[]⟩:=by kernel_rfl
@[simp] theorem abN:cfg.ti 129=a ⟨.struct (aG Tryz.prog 129),3,40,a [.int .i64 0,.str [],.str []],c,c,[(3,0,1),(9,1,1),(9,2,1)]⟩:=by kernel_rfl
@[simp] theorem Sm:cfg.ti 134=a ⟨.map 3 9,1,8,a [.jZ],d,c,[]⟩:=by kernel_rfl
@[simp] theorem Sn:cfg.ti 135=a ⟨.map 3 3,1,8,a [.jZ],d,c,[]⟩:=by kernel_rfl
@[simp] theorem abO:cfg.ti 137=a ⟨.array 5 9,5,80,a [.str [],.str [],.str [],.str [],.str []],c,c,[]⟩:=by kernel_rfl
@[simp] theorem abP:cfg.ti 166=a ⟨.struct (aG Tryz.prog 166),2,32,a [.ah (a c) 0 [],.bool d],c,c,[(55,0,1),(4,1,1)]⟩:=by kernel_rfl
@[simp] theorem abQ:cfg.ti 175=a ⟨.pointer 178,1,8,a [.cn],d,c,[]⟩:=by kernel_rfl
@[simp] theorem abR:cfg.ti 176=a ⟨.slice 5,1,24,a [.ah (a c) 0 []],d,c,[]⟩:=by kernel_rfl
@[simp] theorem abS:cfg.ti 178=a ⟨.struct (aG Tryz.prog 178),2,32,a [.cn,.ah (a c) 0 []],c,c,[(175,0,1),(176,1,1)]⟩:=by kernel_rfl
@[simp] theorem abT:cfg.ti 180=a ⟨.interface (match Tryz.prog.underlying 180 with | some (.interface ms)=>ms | _=> #[]),1,16,a [.il d],d,d,[]⟩:=by kernel_rfl
@[simp] theorem abU:cfg.ti 215=a ⟨.pointer 5,1,8,a [.cn],d,c,[]⟩:=by kernel_rfl
@[simp] theorem abV:cfg.ti 216=a ⟨.pointer 218,1,8,a [.cn],d,c,[]⟩:=by kernel_rfl
@[simp] theorem abW:cfg.ti 218=a ⟨.struct (aG Tryz.prog 218),1,24,a [.ah (a c) 0 []],c,c,[(176,0,1)]⟩:=by kernel_rfl
@[simp] theorem abX:cfg.ti 245=a ⟨.unsafePointer,1,8,a [.cn],d,c,[]⟩:=by kernel_rfl
@[simp] theorem abY:cfg.ti 249=a ⟨.int .i64,1,8,a [.int .i64 0],d,c,[]⟩:=by kernel_rfl
theorem fn0:cfg.fn.get b 0=a f0:=by kernel_rfl
theorem fn2:cfg.fn.get b 2=a f2:=by kernel_rfl
theorem fn3:cfg.fn.get b 3=a f3:=by kernel_rfl
theorem fn4:cfg.fn.get b 4=a f4:=by kernel_rfl
theorem fn9:cfg.fn.get b 9=a f9:=by kernel_rfl
theorem adW:cfg.fn.get b 10=a f10:=by kernel_rfl
theorem abZ:cfg.fn.get b 11=a f11:=by kernel_rfl
theorem adY:cfg.fn.get b 12=a f12:=by kernel_rfl
theorem ab0:cfg.fn.get b 13=a f13:=by kernel_rfl
theorem aeV:cfg.fn.get b 14=a f14:=by kernel_rfl
theorem ad9:cfg.fn.get b 15=a f15:=by kernel_rfl
theorem Wf:cfg.fn.get b 16=a f16:=by kernel_rfl
theorem aeW:cfg.fn.get b 17=a f17:=by kernel_rfl
theorem We:cfg.fn.get b 18=a f18:=by kernel_rfl
theorem aeX:cfg.fn.get b 19=a f19:=by kernel_rfl
theorem ad8:cfg.fn.get b 20=a f20:=by kernel_rfl
theorem aeY:cfg.fn.get b 21=a f21:=by kernel_rfl
theorem adz:cfg.fn.get b 22=a f22:=by kernel_rfl
theorem aeZ:cfg.fn.get b 24=a f24:=by kernel_rfl
theorem adZ:cfg.fn.get b 27=a f27:=by kernel_rfl
theorem ae0:cfg.fn.get b 29=a f29:=by kernel_rfl
theorem ae1:cfg.fn.get b 30=a f30:=by kernel_rfl
theorem Wc:cfg.fn.get b 34=a f34:=by kernel_rfl
theorem ab1:cfg.fn.get b 35=a f35:=by kernel_rfl
theorem aej:cfg.fn.get b 36=a f36:=by kernel_rfl
theorem ae2:cfg.fn.get b 37=a f37:=by kernel_rfl
theorem ad1:cfg.fn.get b 38=a f38:=by kernel_rfl
theorem ad3:cfg.fn.get b 39=a f39:=by kernel_rfl
theorem adX:cfg.fn.get b 40=a f40:=by kernel_rfl
theorem ae3:cfg.fn.get b 41=a f41:=by kernel_rfl
theorem ad0:cfg.fn.get b 42=a f42:=by kernel_rfl
theorem ae4:cfg.fn.get b 43=a f43:=by kernel_rfl
theorem aer:cfg.fn.get b 44=a f44:=by kernel_rfl
theorem ae5:cfg.fn.get b 45=a f45:=by kernel_rfl
theorem adp:cfg.fn.get b 46=a f46:=by kernel_rfl
theorem adf:cfg.fn.get b 47=a f47:=by kernel_rfl
theorem adn:cfg.fn.get b 48=a f48:=by kernel_rfl
theorem adt:cfg.fn.get b 49=a f49:=by kernel_rfl
theorem adx:cfg.fn.get b 50=a f50:=by kernel_rfl
theorem ady:cfg.fn.get b 51=a f51:=by kernel_rfl
theorem adw:cfg.fn.get b 52=a f52:=by kernel_rfl
theorem ae6:cfg.fn.get b 53=a f53:=by kernel_rfl
theorem adA:cfg.fn.get b 54=a f54:=by kernel_rfl
theorem adT:cfg.fn.get b 55=a f55:=by kernel_rfl
theorem adi:cfg.fn.get b 59=a f59:=by kernel_rfl
theorem adh:cfg.fn.get b 60=a f60:=by kernel_rfl
theorem ae7:cfg.fn.get b 61=a f61:=by kernel_rfl
theorem ae8:cfg.fn.get b 62=a f62:=by kernel_rfl
theorem ad4:cfg.fn.get b 63=a f63:=by kernel_rfl
theorem adg:cfg.fn.get b 64=a f64:=by kernel_rfl
theorem ae9:cfg.fn.get b 65=a f65:=by kernel_rfl
theorem adU:cfg.fn.get b 66=a f66:=by kernel_rfl
theorem aef:cfg.fn.get b 67=a f67:=by kernel_rfl
theorem aeb:cfg.fn.get b 68=a f68:=by kernel_rfl
theorem aec:cfg.fn.get b 69=a f69:=by kernel_rfl
theorem aed:cfg.fn.get b 70=a f70:=by kernel_rfl
theorem aee:cfg.fn.get b 71=a f71:=by kernel_rfl
theorem aei:cfg.fn.get b 72=a f72:=by kernel_rfl
theorem aeo:cfg.fn.get b 73=a f73:=by kernel_rfl
theorem ad2:cfg.fn.get b 74=a f74:=by kernel_rfl
theorem aem:cfg.fn.get b 75=a f75:=by kernel_rfl
theorem aam:cfg.fn.get b 76=a f76:=by kernel_rfl
theorem afa:cfg.fn.get b 77=a f77:=by kernel_rfl
theorem afb:cfg.fn.get b 79=a f79:=by kernel_rfl
theorem aek:cfg.fn.get b 80=a f80:=by kernel_rfl
theorem ael:cfg.fn.get b 81=a f81:=by kernel_rfl
theorem aeq:cfg.fn.get b 82=a f82:=by kernel_rfl
theorem aeh:cfg.fn.get b 83=a f83:=by kernel_rfl
theorem aeg:cfg.fn.get b 84=a f84:=by kernel_rfl
theorem aep:cfg.fn.get b 85=a f85:=by kernel_rfl
theorem adj:cfg.fn.get b 86=a f86:=by kernel_rfl
theorem adk:cfg.fn.get b 87=a f87:=by kernel_rfl
theorem ado:cfg.fn.get b 88=a f88:=by kernel_rfl
theorem ade:cfg.fn.get b 89=a f89:=by kernel_rfl
theorem adl:cfg.fn.get b 90=a f90:=by kernel_rfl
theorem adm:cfg.fn.get b 91=a f91:=by kernel_rfl
theorem YI:cfg.fn.get b 93=a f93:=by kernel_rfl
theorem adq:cfg.fn.get b 94=a f94:=by kernel_rfl
theorem adu:cfg.fn.get b 95=a f95:=by kernel_rfl
theorem adv:cfg.fn.get b 96=a f96:=by kernel_rfl
theorem ads:cfg.fn.get b 97=a f97:=by kernel_rfl
theorem adr:cfg.fn.get b 98=a f98:=by kernel_rfl
theorem afc:cfg.fn.get b 99=a f99:=by kernel_rfl
theorem ab2:cfg.fn.get b 100=a f100:=by kernel_rfl
theorem YR:cfg.fn.get b 101=a f101:=by kernel_rfl
theorem aae:cfg.fn.get b 102=a f102:=by kernel_rfl
theorem YY:cfg.fn.get b 103=a f103:=by kernel_rfl
theorem YX:cfg.fn.get b 104=a f104:=by kernel_rfl
theorem X6:cfg.fn.get b 107=a f107:=by kernel_rfl
theorem ab3:cfg.fn.get b 108=a f108:=by kernel_rfl
theorem aaQ:cfg.fn.get b 109=a f109:=by kernel_rfl
theorem ab4:cfg.fn.get b 110=a f110:=by kernel_rfl
theorem ab5:cfg.fn.get b 111=a f111:=by kernel_rfl
theorem MD:cfg.fn.get b 112=a f112:=by kernel_rfl
theorem YF:cfg.fn.get b 113=a f113:=by kernel_rfl
theorem aai:cfg.fn.get b 116=a f116:=by kernel_rfl
theorem aa1:cfg.fn.get b 117=a f117:=by kernel_rfl
theorem aa2:cfg.fn.get b 118=a f118:=by kernel_rfl
theorem abf:cfg.fn.get b 119=a f119:=by kernel_rfl
theorem Ts:cfg.fn.get b 120=a f120:=by kernel_rfl
theorem abc:cfg.fn.get b 121=a f121:=by kernel_rfl
theorem aba:cfg.fn.get b 122=a f122:=by kernel_rfl
theorem abd:cfg.fn.get b 123=a f123:=by kernel_rfl
theorem abm:cfg.fn.get b 124=a f124:=by kernel_rfl
theorem abo:cfg.fn.get b 125=a f125:=by kernel_rfl
theorem O0:cfg.fn.get b 126=a f126:=by kernel_rfl
theorem abA:cfg.fn.get b 127=a f127:=by kernel_rfl
theorem abl:cfg.fn.get b 128=a f128:=by kernel_rfl
theorem aby:cfg.fn.get b 129=a f129:=by kernel_rfl
theorem abp:cfg.fn.get b 130=a f130:=by kernel_rfl
theorem abq:cfg.fn.get b 131=a f131:=by kernel_rfl
theorem S9:cfg.fn.get b 132=a f132:=by kernel_rfl
theorem wA:cfg.fn.get b 133=a f133:=by kernel_rfl
theorem Y4:cfg.fn.get b 134=a f134:=by kernel_rfl
theorem aal:cfg.fn.get b 135=a f135:=by kernel_rfl
theorem ab6:cfg.fn.get b 136=a f136:=by kernel_rfl
theorem abx:cfg.fn.get b 137=a f137:=by kernel_rfl
theorem Tu:cfg.fn.get b 138=a f138:=by kernel_rfl
theorem Ye:cfg.fn.get b 139=a f139:=by kernel_rfl
theorem X9:cfg.fn.get b 140=a f140:=by kernel_rfl
theorem Yh:cfg.fn.get b 141=a f141:=by kernel_rfl
theorem Z4:cfg.fn.get b 145=a f145:=by kernel_rfl
theorem YE:cfg.fn.get b 146=a f146:=by kernel_rfl
theorem Yp:cfg.fn.get b 147=a f147:=by kernel_rfl
theorem Yq:cfg.fn.get b 148=a f148:=by kernel_rfl
theorem Se:cfg.fn.get b 149=a f149:=by kernel_rfl
theorem YQ:cfg.fn.get b 150=a f150:=by kernel_rfl
theorem Y0:cfg.fn.get b 151=a f151:=by kernel_rfl
theorem aao:cfg.fn.get b 152=a f152:=by kernel_rfl
theorem YV:cfg.fn.get b 153=a f153:=by kernel_rfl
theorem YA:cfg.fn.get b 164=a f164:=by kernel_rfl
theorem YD:cfg.fn.get b 165=a f165:=by kernel_rfl
theorem aaZ:cfg.fn.get b 167=a f167:=by kernel_rfl
theorem aa0:cfg.fn.get b 168=a f168:=by kernel_rfl
theorem aa3:cfg.fn.get b 169=a f169:=by kernel_rfl
theorem abb:cfg.fn.get b 170=a f170:=by kernel_rfl
theorem abe:cfg.fn.get b 171=a f171:=by kernel_rfl
theorem abn:cfg.fn.get b 172=a f172:=by kernel_rfl
theorem aaq:cfg.fn.get b 173=a f173:=by kernel_rfl
theorem aak:cfg.fn.get b 174=a f174:=by kernel_rfl
theorem aaj:cfg.fn.get b 175=a f175:=by kernel_rfl
theorem Z8:cfg.fn.get b 176=a f176:=by kernel_rfl
theorem aac:cfg.fn.get b 177=a f177:=by kernel_rfl
theorem aaa:cfg.fn.get b 178=a f178:=by kernel_rfl
theorem Z6:cfg.fn.get b 179=a f179:=by kernel_rfl
theorem aau:cfg.fn.get b 181=a f181:=by kernel_rfl
theorem aad:cfg.fn.get b 182=a f182:=by kernel_rfl
theorem aav:cfg.fn.get b 183=a f183:=by kernel_rfl
theorem X8:cfg.fn.get b 184=a f184:=by kernel_rfl
theorem Yo:cfg.fn.get b 187=a f187:=by kernel_rfl
theorem YZ:cfg.fn.get b 188=a f188:=by kernel_rfl
theorem aan:cfg.fn.get b 189=a f189:=by kernel_rfl
theorem Yz:cfg.fn.get b 195=a f195:=by kernel_rfl
theorem Sk:cfg.fn.get b 196=a f196:=by kernel_rfl
theorem aap:cfg.fn.get b 206=a f206:=by kernel_rfl
theorem Z7:cfg.fn.get b 207=a f207:=by kernel_rfl
theorem aab:cfg.fn.get b 208=a f208:=by kernel_rfl
theorem Z9:cfg.fn.get b 209=a f209:=by kernel_rfl
theorem Z5:cfg.fn.get b 210=a f210:=by kernel_rfl
theorem aat:cfg.fn.get b 213=a f213:=by kernel_rfl
theorem aas:cfg.fn.get b 214=a f214:=by kernel_rfl
theorem YB:cfg.fn.get b 225=a f225:=by kernel_rfl
theorem aar:cfg.fn.get b 236=a f236:=by kernel_rfl
theorem ab7:cfg.ti 197=a ⟨.int .u64,1,8,a [.int .u64 0],d,c,[]⟩:=by kernel_rfl
theorem ab8:cfg.ti 148=a ⟨.int .u64,1,8,a [.int .u64 0],d,c,[]⟩:=by kernel_rfl
theorem afd:cfg.ti 30=a ⟨.struct (aG Tryz.prog 30),3,48,a [.int .i64 0,.str [],.ah (a c) 0 []],c,c,[(3,0,1),(9,1,1),(29,2,1)]⟩:=by kernel_rfl
theorem afe:cfg.ti 48=a ⟨.struct (aG Tryz.prog 48),3,48,a [.int .i64 0,.str [],.ah (a c) 0 []],c,c,[(3,0,1),(9,1,1),(47,2,1)]⟩:=by kernel_rfl
theorem ab9:cfg.ti 165=a ⟨.struct (aG Tryz.prog 165),2,32,a [.ah (a c) 0 [],.bool d],c,c,[(55,0,1),(4,1,1)]⟩:=by kernel_rfl
theorem aca:cfg.ti 179=a ⟨.interface (match Tryz.prog.underlying 179 with | some (.interface ms)=>ms | _=> #[]),1,16,a [.il d],d,d,[]⟩:=by kernel_rfl
