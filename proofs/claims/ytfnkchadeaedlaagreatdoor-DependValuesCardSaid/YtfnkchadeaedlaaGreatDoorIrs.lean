/-
  The plainer forms of this program's functions (written by irprint.py).
-/
import Derived.Test.YtfnkchadeaedlaaGreatDoorTables
set_option linter.all false
namespace Go.Am
@[simp] def It.f (k d:Nat) (o:Op) (xs:List (Nat×E)):It:=.dT none k (some d) none o xs
@[simp] def E.ci (n:Int):E:=.cst (.int .i64 n)
@[simp] def IR.rp (k:Nat) (e:E):IR:=.cg 0 [] [.par [(k,e)]]
@[simp] def E.v (n:Nat):E:=.var n
@[simp] def E.lf (t s v o:Nat):E:=.load t (.faddr s (.var v) o)
end Go.Am
namespace Go
@[simp] def Operand.t (n:Nat):Operand:=.tmp n
@[simp] def Op.cl (f:Nat) (a:Array Operand) (t:Array Nat):Op:=.call (.mk (.value (.func f)) a t)
end Go
namespace Go.Proofs.YtfnkchadeaedlaaGreatDoor
open Go.Am
set_option maxRecDepth 100000
set_option maxHeartbeats 40000000
def rhs{b}(_:∃a:Option TI,a=b):Option TI:=b
def rhsE(d:TypeDesc){n s b z a e f}(_:∃d,cfg.ti n=some ⟨d,s,b,z,a,e,f⟩):Option TI:=some ⟨d,s,b,z,a,e,f⟩
noncomputable def tyL:List (Nat×Option TI):=[(3,rhs ⟨_,XT⟩),(4,rhs ⟨_,XU⟩),(5,rhs ⟨_,XV⟩),(9,rhs ⟨_,XW⟩),(20,rhsE (.interface #[]) ⟨_,WU⟩),(22,rhs ⟨_,WV⟩),(23,rhs ⟨_,WW⟩),(24,rhs ⟨_,WX⟩),(26,rhsE (.struct #[]) ⟨_,WY⟩),(28,rhsE (.struct #[]) ⟨_,WZ⟩),(31,rhs ⟨_,W0⟩),(39,rhs ⟨_,W4⟩),(41,rhsE (.struct #[]) ⟨_,W5⟩),(44,rhs ⟨_,W6⟩),(46,rhsE (.struct #[]) ⟨_,W7⟩),(55,rhs ⟨_,W8⟩),(57,rhsE (.struct #[]) ⟨_,W9⟩),(71,rhs ⟨_,Xa⟩),(73,rhsE (.struct #[]) ⟨_,Xb⟩),(75,rhsE (.struct #[]) ⟨_,Xc⟩),(77,rhsE (.struct #[]) ⟨_,Xd⟩),(79,rhsE (.struct #[]) ⟨_,Xe⟩),(82,rhs ⟨_,Tg⟩),(102,rhsE (.struct #[]) ⟨_,UQ⟩),(120,rhsE (.interface #[]) ⟨_,UR⟩),(130,rhs ⟨_,US⟩),(139,rhs ⟨_,Ma⟩),(140,rhs ⟨_,Mb⟩),(141,rhs ⟨_,UT⟩),(156,rhs ⟨_,UU⟩),(157,rhs ⟨_,UW⟩),(159,rhsE (.struct #[]) ⟨_,UX⟩),(192,rhs ⟨_,UY⟩),(193,rhs ⟨_,UZ⟩),(199,rhsE (.struct #[]) ⟨_,U0⟩),(216,rhs ⟨_,U1⟩)]
noncomputable def tyS:Tr (Option TI):=(⟨_,by conv=>lhs;cbv⟩:{x//tyL.foldl (fun t p=>t.set p.1 p.2) (Tr.mk none 9 400)=x}).1
noncomputable def cfgS:ax:={ty:=tyS,fn:= .lf,ov:=FC,CU:=re,ext:=exts,own:=LM,cut:=true,iV:=iV}
def Vf:bT:=by refine (?f:_→_) (by conv=>lhs;cbv:an cfgS Tryz.f3=some ?x);exact fun _=>?x
theorem Wo:an cfg Tryz.f3=some Vf:=by kernel_rfl
def Lg:bT:=by refine (?f:_→_→_) (by conv=>lhs;cbv:(Tryz.f12.body.map fun a=>H7 cfgS Tryz.f12 a)=some ?k) (by conv=>lhs;cbv:y8 cfgS ?k Tryz.f12=some ?x);exact fun _ _=>?x
theorem IW:an cfg Tryz.f12=some Lg:=by kernel_rfl
def Pr:bT:=by refine (?f:_→_) (by conv=>lhs;cbv:an cfgS Tryz.f15=some ?x);exact fun _=>?x
theorem TP:an cfg Tryz.f15=some Pr:=by kernel_rfl
def HA:bT:=by refine (?f:_→_) (by conv=>lhs;cbv:an cfgS Tryz.f18=some ?x);exact fun _=>?x
theorem RY:an cfg Tryz.f18=some HA:=by kernel_rfl
def TO:bT:=by refine (?f:_→_) (by conv=>lhs;cbv:an cfgS Tryz.f21=some ?x);exact fun _=>?x
theorem TN:an cfg Tryz.f21=some TO:=by kernel_rfl
def TS:bT:=by refine (?f:_→_) (by conv=>lhs;cbv:an cfgS Tryz.f24=some ?x);exact fun _=>?x
theorem TR:an cfg Tryz.f24=some TS:=by kernel_rfl
def Ls:bT:=by refine (?f:_→_) (by conv=>lhs;cbv:an cfgS Tryz.f36=some ?x);exact fun _=>?x
theorem Jk:an cfg Tryz.f36=some Ls:=by kernel_rfl
def Ka:bT:=by refine (?f:_→_) (by conv=>lhs;cbv:an cfgS Tryz.f39=some ?x);exact fun _=>?x
theorem HE:an cfg Tryz.f39=some Ka:=by kernel_rfl
def Tt:bT:=by refine (?f:_→_) (by conv=>lhs;cbv:an cfgS Tryz.f44=some ?x);exact fun _=>?x
theorem Ts:an cfg Tryz.f44=some Tt:=by kernel_rfl
def LF:bT:=by refine (?f:_→_) (by conv=>lhs;cbv:an cfgS Tryz.f47=some ?x);exact fun _=>?x
theorem JF:an cfg Tryz.f47=some LF:=by kernel_rfl
def ND:bT:=by refine (?f:_→_) (by conv=>lhs;cbv:an cfgS Tryz.f50=some ?x);exact fun _=>?x
theorem R0:an cfg Tryz.f50=some ND:=by kernel_rfl
def PB:bT:=by refine (?f:_→_) (by conv=>lhs;cbv:an cfgS Tryz.f53=some ?x);exact fun _=>?x
theorem T6:an cfg Tryz.f53=some PB:=by kernel_rfl
def JZ:bT:=by refine (?f:_→_) (by conv=>lhs;cbv:an cfgS Tryz.f56=some ?x);exact fun _=>?x
theorem Rs:an cfg Tryz.f56=some JZ:=by kernel_rfl
def Nk:bT:=by refine (?f:_→_) (by conv=>lhs;cbv:an cfgS Tryz.f59=some ?x);exact fun _=>?x
theorem Rx:an cfg Tryz.f59=some Nk:=by kernel_rfl
def Nw:bT:=by refine (?f:_→_) (by conv=>lhs;cbv:an cfgS Tryz.f62=some ?x);exact fun _=>?x
theorem RP:an cfg Tryz.f62=some Nw:=by kernel_rfl
def Nu:bT:=by refine (?f:_→_) (by conv=>lhs;cbv:an cfgS Tryz.f65=some ?x);exact fun _=>?x
theorem L8:an cfg Tryz.f65=some Nu:=by kernel_rfl
def Lx:bT:=by refine (?f:_→_) (by conv=>lhs;cbv:an cfgS Tryz.f71=some ?x);exact fun _=>?x
theorem T5:an cfg Tryz.f71=some Lx:=by kernel_rfl
def Uz:bT:=by refine (?f:_→_) (by conv=>lhs;cbv:an cfgS Tryz.f74=some ?x);exact fun _=>?x
theorem Uy:an cfg Tryz.f74=some Uz:=by kernel_rfl
def NA:bT:=by refine (?f:_→_) (by conv=>lhs;cbv:an cfgS Tryz.f77=some ?x);exact fun _=>?x
theorem RU:an cfg Tryz.f77=some NA:=by kernel_rfl
def RF:bT:=by refine (?f:_→_) (by conv=>lhs;cbv:an cfgS Tryz.f80=some ?x);exact fun _=>?x
theorem RE:an cfg Tryz.f80=some RF:=by kernel_rfl
def HD:bT:=by refine (?f:_→_) (by conv=>lhs;cbv:an cfgS Tryz.f83=some ?x);exact fun _=>?x
theorem R2:an cfg Tryz.f83=some HD:=by kernel_rfl
def JW:bT:=by refine (?f:_→_) (by conv=>lhs;cbv:an cfgS Tryz.f88=some ?x);exact fun _=>?x
theorem Ra:an cfg Tryz.f88=some JW:=by kernel_rfl
def Um:bT:=by refine (?f:_→_) (by conv=>lhs;cbv:an cfgS Tryz.f91=some ?x);exact fun _=>?x
theorem Ul:an cfg Tryz.f91=some Um:=by kernel_rfl
def PN:bT:=by refine (?f:_→_) (by conv=>lhs;cbv:an cfgS Tryz.f94=some ?x);exact fun _=>?x
theorem UD:an cfg Tryz.f94=some PN:=by kernel_rfl
def LC:bT:=by refine (?f:_→_) (by conv=>lhs;cbv:an cfgS Tryz.f97=some ?x);exact fun _=>?x
theorem Ue:an cfg Tryz.f97=some LC:=by kernel_rfl
def MO:bT:=by refine (?f:_→_) (by conv=>lhs;cbv:an cfgS Tryz.f100=some ?x);exact fun _=>?x
theorem Pl:an cfg Tryz.f100=some MO:=by kernel_rfl
def Ey:bT:=by refine (?f:_→_) (by conv=>lhs;cbv:an cfgS Tryz.f104=some ?x);exact fun _=>?x
theorem M9:an cfg Tryz.f104=some Ey:=by kernel_rfl
def LO:bT:=by refine (?f:_→_) (by conv=>lhs;cbv:an cfgS Tryz.f107=some ?x);exact fun _=>?x
theorem MX:an cfg Tryz.f107=some LO:=by kernel_rfl
def L7:bT:=by refine (?f:_→_) (by conv=>lhs;cbv:an cfgS Tryz.f110=some ?x);exact fun _=>?x
theorem Nt:an cfg Tryz.f110=some L7:=by kernel_rfl
def LV:bT:=by refine (?f:_→_) (by conv=>lhs;cbv:an cfgS Tryz.f113=some ?x);exact fun _=>?x
theorem Ni:an cfg Tryz.f113=some LV:=by kernel_rfl
def MG:bT:=by refine (?f:_→_) (by conv=>lhs;cbv:an cfgS Tryz.f116=some ?x);exact fun _=>?x
theorem O6:an cfg Tryz.f116=some MG:=by kernel_rfl
def IZ:bT:=by refine (?f:_→_) (by conv=>lhs;cbv:an cfgS Tryz.f119=some ?x);exact fun _=>?x
theorem O4:an cfg Tryz.f119=some IZ:=by kernel_rfl
def MF:bT:=by refine (?f:_→_) (by conv=>lhs;cbv:an cfgS Tryz.f125=some ?x);exact fun _=>?x
theorem O2:an cfg Tryz.f125=some MF:=by kernel_rfl
def Hq:bT:=by refine (?f:_→_) (by conv=>lhs;cbv:an cfgS Tryz.f128=some ?x);exact fun _=>?x
theorem Hp:an cfg Tryz.f128=some Hq:=by kernel_rfl
def L0:bT:=by refine (?f:_→_) (by conv=>lhs;cbv:an cfgS Tryz.f131=some ?x);exact fun _=>?x
theorem Nq:an cfg Tryz.f131=some L0:=by kernel_rfl
def MN:bT:=by refine (?f:_→_) (by conv=>lhs;cbv:an cfgS Tryz.f135=some ?x);exact fun _=>?x
theorem Pj:an cfg Tryz.f135=some MN:=by kernel_rfl
def MS:bT:=by refine (?f:_→_) (by conv=>lhs;cbv:an cfgS Tryz.f148=some ?x);exact fun _=>?x
theorem PH:an cfg Tryz.f148=some MS:=by kernel_rfl
def Jy:bT:=by refine (?f:_→_) (by conv=>lhs;cbv:an cfgS Tryz.f151=some ?x);exact fun _=>?x
theorem PG:an cfg Tryz.f151=some Jy:=by kernel_rfl
def Ew:bT:=by refine (?f:_→_) (by conv=>lhs;cbv:an cfgS Tryz.f155=some ?x);exact fun _=>?x
theorem M6:an cfg Tryz.f155=some Ew:=by kernel_rfl
def uu:bT:=(.mk [0,2,3,4,5,6,8,19,24,28,32] (.seq (.cg 0 [] [.par [(1,.ci 0),(2,.ci 0)]]) (.seq (.cg 0 [] [.f 0 6 (.cl 80 #[.t 7,.const (.int .u8 93)] #[9,5]) [(7,.v 0)],.par [(3,.v 6)]]) (.seq (.seq (.rp 7 (.or (.or (.bin .lss 3 (.v 3) (.ci 2)) (.bin .gtr 3 (.v 3) (.ci 11))) (.bin .eql 5 (.index 9 (.v 0) (.ci 1)) (.cst (.int .u8 48))))) (.cond 7 (.seq (.cg 0 [] [.par [(1,.ci 0),(2,.ci 0)]]) .ret) .skip)) (.seq (.cg 0 [] [.f 0 8 (.cl 81 #[.t 23,.const (.int .i64 10),.const (.int .i64 40)] #[9,3,3]) [(23,.slB (.v 0) (.ci 1) (.v 3))],.par [(4,.extract (.v 8) 0),(5,.extract (.v 8) 1)]]) (.seq (.seq (.cg 0 [] [.f 0 9 (.binOp .neq 120 (.t 27) (.const .nilIface) 120) [(27,.v 5)],.par [(10,.or (.v 9) (.bin .gtr 118 (.v 4) (.cst (.int .u64 1073741824))))]]) (.cond 10 (.seq (.cg 0 [] [.par [(1,.ci 0),(2,.ci 0)]]) .ret) .skip)) (.seq (.cg 1 [] [.par [(1,.toInt .i64 (.v 4)),(2,.bin .add 3 (.v 3) (.ci 1))]]) .ret)))))) [.v 1,.v 2])
theorem Ns:an cfg Tryz.f158=some uu:=by kernel_rfl
def MH:bT:=by refine (?f:_→_) (by conv=>lhs;cbv:an cfgS Tryz.f161=some ?x);exact fun _=>?x
theorem O7:an cfg Tryz.f161=some MH:=by kernel_rfl
def Hn:bT:=by refine (?f:_→_) (by conv=>lhs;cbv:an cfgS Tryz.f167=some ?x);exact fun _=>?x
theorem Nn:an cfg Tryz.f167=some Hn:=by kernel_rfl
def yp:bT:=by refine (?f:_→_) (by conv=>lhs;cbv:an cfgS Tryz.f177=some ?x);exact fun _=>?x
theorem Ph:an cfg Tryz.f177=some yp:=by kernel_rfl
def TX:bT:=(.mk [0,1,2,3,4,5,6,7,10,15,18,31,32,33,34,35,36,37,38,39,40,56,59,64,68,69,70,71,72] (.seq (.rp 0 (.cst (.bool false))) (.seq (.cg 1 [] [.f 0 7 (.cl 36 #[] #[]) [],.f 0 1 (.alloc 26) [],.dT none 1 none none (.store 26 (.t 1) (.t 7)) [(1,.v 1),(7,.v 7)]]) (.seq (.cg 0 [] [.f 0 8 (.cl 12 #[.t 9,.const (.int .i64 7),.const (.string (.mk #[101,110])),.const (.int .i64 7)] #[26,3,9,3]) [(9,.load 26 (.v 1))],.par [(2,.extract (.v 8) 0),(3,.extract (.v 8) 1)]]) (.seq (.cg 1 [] [.f 0 9 (.cl 19 #[.const (.int .i64 7),.t 14] #[3,31]) [(14,.v 2)],.f 0 4 (.alloc 46) [],.dT none 1 none none (.store 46 (.t 4) (.t 16)) [(4,.v 4),(16,.extract (.v 9) 0)],.par [(5,.extract (.v 9) 1)]]) (.seq (.cg 1 [] [.f 0 10 (.cl 36 #[] #[]) [],.f 0 6 (.alloc 26) [],.dT none 1 none none (.store 26 (.t 6) (.t 18)) [(6,.v 6),(18,.v 10)]]) (.seq (.cg 0 [] [.dT none 0 none none (.store 9 (.t 22) (.const (.string (.mk #[71,97,116,101])))) [(22,.faddr 73 (.iaddr 24 (.lf 24 26 6 2) (.ci 1)) 4)]]) (.seq (.cg 2 [] [.dT none 0 (some 11) (some (.and (.bin .eql 32 (.v 3) (.ci 0)) (.bin .eql 32 (.v 5) (.ci 0)),true)) (.build 28 #[(0,.const (.int .i64 1)),(1,.const (.int .i64 7))]) [],.dT none 0 (some 12) (some (.and (.bin .eql 32 (.v 3) (.ci 0)) (.bin .eql 32 (.v 5) (.ci 0)),true)) (.build 57 #[(0,.t 31),(1,.const (.string (.mk #[49])))]) [(31,.v 11)],.dT none 0 (some 13) (some (.and (.bin .eql 32 (.v 3) (.ci 0)) (.bin .eql 32 (.v 5) (.ci 0)),true)) (.build 28 #[(0,.const (.int .i64 2)),(1,.const (.int .i64 7))]) [],.dT none 0 (some 14) (some (.and (.bin .eql 32 (.v 3) (.ci 0)) (.bin .eql 32 (.v 5) (.ci 0)),true)) (.build 57 #[(0,.t 33),(1,.const (.string (.mk #[102,111,110,100,115,32,84,111,119,110,10,109,97,114,107,32,65,10,49,32,83,101,101,32,91,57,93,10])))]) [(33,.v 13)],.dT none 0 (some 15) (some (.and (.bin .eql 32 (.v 3) (.ci 0)) (.bin .eql 32 (.v 5) (.ci 0)),true)) (.build 28 #[(0,.const (.int .i64 3)),(1,.const (.int .i64 1))]) [],.dT none 0 (some 16) (some (.and (.bin .eql 32 (.v 3) (.ci 0)) (.bin .eql 32 (.v 5) (.ci 0)),true)) (.build 57 #[(0,.t 35),(1,.const (.string (.mk #[67,111,110,116,101,110,116,115])))]) [(35,.v 15)],.dT none 0 (some 17) (some (.and (.bin .eql 32 (.v 3) (.ci 0)) (.bin .eql 32 (.v 5) (.ci 0)),true)) (.build 28 #[(0,.const (.int .i64 4)),(1,.const (.int .i64 9))]) [],.dT none 0 (some 18) (some (.and (.bin .eql 32 (.v 3) (.ci 0)) (.bin .eql 32 (.v 5) (.ci 0)),true)) (.build 57 #[(0,.t 37),(1,.const (.string (.mk #[87,97,108,108,115])))]) [(37,.v 17)],.dT none 0 (some 19) (some (.and (.bin .eql 32 (.v 3) (.ci 0)) (.bin .eql 32 (.v 5) (.ci 0)),true)) (.buildSlice 31 4 #[(0,.t 32),(1,.t 34),(2,.t 36),(3,.t 38)]) [(32,.v 12),(34,.v 14),(36,.v 16),(38,.v 18)],.dT none 1 (some 20) (some (.and (.bin .eql 32 (.v 3) (.ci 0)) (.bin .eql 32 (.v 5) (.ci 0)),true)) (.cl 37 #[.t 30,.t 39] #[31,31]) [(30,.v 2),(39,.v 19)],.par [(29,.guard (.and (.and (.pick (.and (.bin .eql 32 (.v 3) (.ci 0)) (.bin .eql 32 (.v 5) (.ci 0))) (.v 20) (.cst (.bool false))) (.bin .eql 3 (.len 44 (.lf 44 46 4 2)) (.ci 3))) (.bin .eql 9 (.load 9 (.faddr 75 (.iaddr 44 (.lf 44 46 4 2) (.ci 2)) 2)) (.cst (.str [67,111,110,116,101,110,116,115,58,32,83,101,101,32,87,97,108,108,115])))) true (.load 26 (.v 6)))],.par [(29,.guard (.and (.and (.pick (.and (.bin .eql 32 (.v 3) (.ci 0)) (.bin .eql 32 (.v 5) (.ci 0))) (.v 20) (.cst (.bool false))) (.bin .eql 3 (.len 44 (.lf 44 46 4 2)) (.ci 3))) (.bin .eql 9 (.load 9 (.faddr 75 (.iaddr 44 (.lf 44 46 4 2) (.ci 2)) 2)) (.cst (.str [67,111,110,116,101,110,116,115,58,32,83,101,101,32,87,97,108,108,115])))) true (.v 2))],.par [(21,.and (.and (.pick (.and (.bin .eql 32 (.v 3) (.ci 0)) (.bin .eql 32 (.v 5) (.ci 0))) (.v 20) (.cst (.bool false))) (.bin .eql 3 (.len 44 (.lf 44 46 4 2)) (.ci 3))) (.bin .eql 9 (.load 9 (.faddr 75 (.iaddr 44 (.lf 44 46 4 2) (.ci 2)) 2)) (.cst (.str [67,111,110,116,101,110,116,115,58,32,83,101,101,32,87,97,108,108,115]))))],.dT none 1 (some 22) (some (.v 21,true)) (.cl 21 #[.t 57,.const (.int .i64 7),.const (.string (.mk #[101,110])),.t 58] #[26,3,9,31]) [(57,.guard (.and (.and (.pick (.and (.bin .eql 32 (.v 3) (.ci 0)) (.bin .eql 32 (.v 5) (.ci 0))) (.v 20) (.cst (.bool false))) (.bin .eql 3 (.len 44 (.lf 44 46 4 2)) (.ci 3))) (.bin .eql 9 (.load 9 (.faddr 75 (.iaddr 44 (.lf 44 46 4 2) (.ci 2)) 2)) (.cst (.str [67,111,110,116,101,110,116,115,58,32,83,101,101,32,87,97,108,108,115])))) true (.load 26 (.v 6))),(58,.guard (.and (.and (.pick (.and (.bin .eql 32 (.v 3) (.ci 0)) (.bin .eql 32 (.v 5) (.ci 0))) (.v 20) (.cst (.bool false))) (.bin .eql 3 (.len 44 (.lf 44 46 4 2)) (.ci 3))) (.bin .eql 9 (.load 9 (.faddr 75 (.iaddr 44 (.lf 44 46 4 2) (.ci 2)) 2)) (.cst (.str [67,111,110,116,101,110,116,115,58,32,83,101,101,32,87,97,108,108,115])))) true (.v 2))],.dT none 1 (some 23) (some (.pick (.v 21) (.v 22) (.cst (.bool false)),true)) (.cl 21 #[.t 62,.const (.int .i64 7),.const (.string (.mk #[101,110])),.t 63] #[26,3,9,31]) [(62,.load 26 (.v 1)),(63,.v 2)],.par [(24,.guard (.and (.pick (.v 21) (.v 22) (.cst (.bool false))) (.un .not (.v 23))) true (.load 26 (.v 1))),(25,.guard (.and (.pick (.v 21) (.v 22) (.cst (.bool false))) (.un .not (.v 23))) true (.load 26 (.v 6)))],.dT none 1 (some 26) (some (.and (.pick (.v 21) (.v 22) (.cst (.bool false))) (.un .not (.v 23)),true)) (.build 28 #[(0,.const (.int .i64 4)),(1,.const (.int .i64 9))]) [],.dT none 1 (some 27) (some (.and (.pick (.v 21) (.v 22) (.cst (.bool false))) (.un .not (.v 23)),true)) (.buildSlice 55 1 #[(0,.t 70)]) [(70,.v 26)],.dT none 2 (some 28) (some (.and (.pick (.v 21) (.v 22) (.cst (.bool false))) (.un .not (.v 23)),true)) (.cl 24 #[.t 68,.t 69,.const (.int .i64 7),.const (.string (.mk #[101,110])),.t 71] #[26,26,3,9,55]) [(68,.v 24),(69,.v 25),(71,.v 27)],.par [(0,.and (.and (.pick (.v 21) (.v 22) (.cst (.bool false))) (.un .not (.v 23))) (.bin .eql 3 (.len 55 (.v 28)) (.ci 1)))]]) .ret))))))) [.v 0])
theorem TW:an cfg Tryz.f10=some TX:=by kernel_rfl
def Ji:bT:=by refine (?f:_→_) (by conv=>lhs;cbv:an cfgS Tryz.f13=some ?x);exact fun _=>?x
theorem TV:an cfg Tryz.f13=some Ji:=by kernel_rfl
def OZ:bT:=by refine (?f:_→_) (by conv=>lhs;cbv:an cfgS Tryz.f16=some ?x);exact fun _=>?x
theorem Tf:an cfg Tryz.f16=some OZ:=by kernel_rfl
def Lk:bT:=(.mk [0,1,4,5,6,7,8,9,10,11,12,13,15,16,18,19,20,36,38,39,42,43,46,49,55,56,59,63,64,66,72,78,79,80,83,85,90,91,92,95,96,97,98,100,104,105,106,114,116,117,118,124,125] (.seq (.seq (.cg 1 [] [.f 0 2 (.alloc 46) [],.par [(3,.ci 0)]]) (.own [.mk 2 (some 2) 75 3])) (.seq (.seq (.cg 0 [] [.par [(14,.len 31 (.v 1)),(15,.ci 0)]]) (.block 0 (.loop [3,4,5,6,7,8,9,10,11,12,13,16,18,19,20,21,22,23,24,25,26,27,28,29,30,31,32,33,34,35,36,37,38,39,40,41,42,43,44,45,46,47,48,49,50,51,52] (.seq (.rp 16 (.bin .lss 3 (.v 15) (.v 14))) (.seq (.cond 16 .skip (.exit 0)) (.seq (.block 1 (.seq (.rp 4 (.v 15)) (.seq (.cg 0 [] [.dT none 0 (some 17) (some (.bin .gtr 3 (.v 4) (.ci 0),true)) (.cl 44 #[.t 30,.t 35] #[28,28]) [(30,.load 28 (.faddr 57 (.iaddr 31 (.v 1) (.bin .sub 3 (.v 4) (.ci 1))) 0)),(35,.load 28 (.faddr 57 (.iaddr 31 (.v 1) (.v 4)) 0))],.par [(18,.and (.bin .gtr 3 (.v 4) (.ci 0)) (.bin .geq 3 (.v 17) (.ci 0)))]]) (.cond 18 (.seq (.cg 0 [] [.f 0 19 (.build 46 #[]) [],.dT none 0 none none (.store 46 (.t 4) (.t 39)) [(4,.v 2),(39,.v 19)],.par [(3,.ci 5)]]) .ret) .skip)))) (.rp 15 (.bin .add 3 (.v 15) (.ci 1))))))))) (.seq (.seq (.cg 1 [] [.f 0 20 (.build 102 #[(0,.t 41)]) [(41,.v 1)],.f 0 21 (.box 102 (.t 42)) [(42,.v 20)],.par [(5,.v 21)]]) (.own [.mk 21 (some 0) 57 3])) (.seq (.cg 0 [] [.f 0 22 (.cl 63 #[.t 44,.const (.int .i64 1),.t 45] #[100,3,3]) [(44,.v 5),(45,.v 0)],.f 0 23 (.cl 63 #[.t 47,.const (.int .i64 2),.t 48] #[100,3,3]) [(47,.v 5),(48,.v 0)],.par [(6,.v 22),(7,.v 23)]]) (.seq (.seq (.rp 24 (.or (.bin .eql 9 (.v 6) (.cst (.str []))) (.bin .eql 9 (.v 7) (.cst (.str []))))) (.cond 24 (.seq (.cg 0 [] [.f 0 25 (.build 46 #[]) [],.dT none 0 none none (.store 46 (.t 4) (.t 56)) [(4,.v 2),(56,.v 25)],.par [(3,.ci 7)]]) .ret) .skip)) (.seq (.cg 1 [] [.f 0 26 (.cl 64 #[.t 58] #[9]) [(58,.v 7)],.f 0 8 (.alloc 73) [],.dT none 1 none none (.store 73 (.t 10) (.t 60)) [(10,.v 8),(60,.extract (.v 26) 0)],.par [(9,.extract (.v 26) 1)]]) (.seq (.seq (.rp 27 (.un .not (.v 9))) (.cond 27 (.seq (.cg 0 [] [.f 0 28 (.build 46 #[]) [],.dT none 0 none none (.store 46 (.t 4) (.t 64)) [(4,.v 2),(64,.v 28)],.par [(3,.ci 3)]]) .ret) .skip)) (.seq (.cg 0 [] [.f 0 29 (.cl 65 #[.t 65,.const (.string (.mk #[46]))] #[9,9]) [(65,.v 6)],.par [(10,.v 29)]]) (.seq (.seq (.cg 2 [0,1] [.dT (some [0,0,1]) 0 (some 30) none (.cl 66 #[.t 71] #[3]) [(71,.lf 3 73 8 2)],.dT (some [0,0,1]) 0 (some 31) none (.build 75 #[(0,.t 69),(1,.t 72),(2,.t 77)]) [(69,.v 10),(72,.v 30),(77,.bin .add 9 (.bin .add 9 (.v 6) (.cst (.str [32]))) (.lf 9 73 8 4))],.dT (some [0,0,1]) 0 (some 32) none (.buildSlice 44 1 #[(0,.t 78)]) [(78,.v 31)],.dT (some [0,1]) 1 (some 33) none (.build 46 #[(0,.t 67),(1,.t 68),(2,.t 79)]) [(67,.v 0),(68,.v 6),(79,.v 32)],.dT (some [0,0,1]) 1 (some 11) none (.alloc 46) [],.dT none 2 none none (.store 46 (.t 13) (.t 80)) [(13,.v 11),(80,.v 33)]]) (.own [.mk 11 (some 2) 75 3])) (.seq (.seq (.rp 34 (.bin .neq 9 (.lf 9 73 8 3) (.cst (.str [])))) (.cond 34 (.cg 2 [] [.par [(35,.lf 44 46 11 2)],.f 0 36 (.build 75 #[(0,.t 87),(1,.const (.string (.mk #[109,97,114,107]))),(2,.t 89)]) [(87,.bin .add 3 (.v 10) (.ci 1)),(89,.lf 9 73 8 3)],.f 0 37 (.buildSlice 44 1 #[(0,.t 90)]) [(90,.v 36)],.f 1 38 (.call (.mk (.builtin .append) #[.t 85,.t 91] #[44,44])) [(85,.v 35),(91,.v 37)],.dT none 2 none none (.store 44 (.t 93) (.t 92)) [(93,.faddr 46 (.v 11) 2),(92,.v 38)]]) .skip)) (.seq (.seq (.cg 0 [] [.par [(39,.lf 71 73 8 5),(40,.len 71 (.lf 71 73 8 5)),(41,.ci 0)]]) (.block 2 (.loop [0,1,3,4,6,7,8,9,12,13,14,15,16,17,18,19,20,21,22,23,24,25,26,27,28,29,30,31,32,33,34,35,36,37,38,42,43,44,45,46,47,48,49,50,51,52] (.seq (.rp 42 (.bin .lss 3 (.v 41) (.v 40))) (.seq (.cond 42 .skip (.exit 2)) (.seq (.block 3 (.seq (.cg 1 [] [.par [(43,.load 79 (.iaddr 71 (.v 39) (.v 41)))],.f 0 12 (.alloc 79) [],.dT none 1 none none (.store 79 (.t 15) (.t 100)) [(15,.v 12),(100,.v 43)]]) (.seq (.cg 0 [] [.f 0 44 (.cl 63 #[.t 101,.const (.int .i64 3),.t 103] #[100,3,3]) [(101,.v 5),(103,.lf 3 79 12 0)],.par [(13,.v 44)]]) (.alt [(2,([0,1],[.par [(45,.faddr 46 (.v 11) 2),(46,.lf 44 46 11 2)],.f 0 47 (.cl 67 #[.t 111,.t 113] #[100,9]) [(111,.v 5),(113,.lf 9 79 12 2)],.f 0 48 (.build 75 #[(0,.t 108),(1,.const (.string (.mk #[112]))),(2,.t 115)]) [(108,.bin .add 3 (.v 10) (.ci 1)),(115,.bin .add 9 (.bin .add 9 (.v 13) (.cst (.str [58,32]))) (.v 47))],.f 0 49 (.buildSlice 44 1 #[(0,.t 116)]) [(116,.v 48)],.f 1 50 (.call (.mk (.builtin .append) #[.t 106,.t 117] #[44,44])) [(106,.v 46),(117,.v 49)],.dT none 2 none none (.store 44 (.t 119) (.t 118)) [(119,.faddr 46 (.v 11) 2),(118,.v 50)]])),(2,([0,1],[.par [(45,.faddr 46 (.v 11) 2)],.f 0 47 (.cl 67 #[.t 111,.t 113] #[100,9]) [(111,.v 5),(113,.lf 9 79 12 2)],.par [(46,.load 44 (.v 45))],.dT (some [0,0,1]) 0 (some 48) none (.build 75 #[(0,.t 108),(1,.const (.string (.mk #[112]))),(2,.t 115)]) [(108,.bin .add 3 (.v 10) (.ci 1)),(115,.bin .add 9 (.bin .add 9 (.v 13) (.cst (.str [58,32]))) (.v 47))],.dT (some [0,0,1]) 0 (some 49) none (.buildSlice 44 1 #[(0,.t 116)]) [(116,.v 48)],.f 1 50 (.call (.mk (.builtin .append) #[.t 106,.t 117] #[44,44])) [(106,.v 46),(117,.v 49)],.dT none 2 none none (.store 44 (.t 119) (.t 118)) [(119,.faddr 46 (.v 11) 2),(118,.v 50)]])),(2,([0,1],[.f 0 47 (.cl 67 #[.t 111,.t 113] #[100,9]) [(111,.v 5),(113,.lf 9 79 12 2)],.par [(45,.faddr 46 (.v 11) 2),(46,.lf 44 46 11 2)],.dT (some [0,0,1]) 0 (some 48) none (.build 75 #[(0,.t 108),(1,.const (.string (.mk #[112]))),(2,.t 115)]) [(108,.bin .add 3 (.v 10) (.ci 1)),(115,.bin .add 9 (.bin .add 9 (.v 13) (.cst (.str [58,32]))) (.v 47))],.dT (some [0,0,1]) 0 (some 49) none (.buildSlice 44 1 #[(0,.t 116)]) [(116,.v 48)],.f 1 50 (.call (.mk (.builtin .append) #[.t 106,.t 117] #[44,44])) [(106,.v 46),(117,.v 49)],.dT none 2 none none (.store 44 (.t 119) (.t 118)) [(119,.faddr 46 (.v 11) 2),(118,.v 50)]]))])))) (.rp 41 (.bin .add 3 (.v 41) (.ci 1))))))))) (.seq (.seq (.rp 51 (.load 4 (.faddr 102 (.nilck (.v 5)) 1))) (.cond 51 (.seq (.cg 0 [] [.f 0 52 (.build 46 #[]) [],.dT none 0 none none (.store 46 (.t 4) (.t 125)) [(4,.v 2),(125,.v 52)],.par [(3,.ci 7)]]) .ret) .skip)) (.seq (.cg 0 [] [.dT none 0 none none (.store 46 (.t 4) (.t 126)) [(4,.v 2),(126,.load 46 (.v 11))],.par [(3,.ci 0)]]) .ret))))))))))))) [.cell 2 46,.v 3])
theorem Tz:an cfg Tryz.f19=some Lk:=by kernel_rfl
def Pt:bT:=by refine (?f:_→_) (by conv=>lhs;cbv:an cfgS Tryz.f37=some ?x);exact fun _=>?x
theorem TQ:an cfg Tryz.f37=some Pt:=by kernel_rfl
def Af:bT:=(.mk [0,2,3,4,5,6,9,11,22,27,31,35] (.seq (.cg 0 [] [.par [(1,.ci 0),(2,.ci 0)]]) (.seq (.seq (.rp 6 (.bin .neq 5 (.index 9 (.v 0) (.ci 0)) (.cst (.int .u8 91)))) (.cond 6 (.seq (.cg 0 [] [.par [(1,.ci 0),(2,.ci 0)]]) .ret) .skip)) (.seq (.cg 0 [] [.f 0 7 (.cl 80 #[.t 10,.const (.int .u8 93)] #[9,5]) [(10,.v 0)],.par [(3,.v 7)]]) (.seq (.seq (.rp 8 (.or (.or (.bin .lss 3 (.v 3) (.ci 2)) (.bin .gtr 3 (.v 3) (.ci 11))) (.bin .eql 5 (.index 9 (.v 0) (.ci 1)) (.cst (.int .u8 48))))) (.cond 8 (.seq (.cg 0 [] [.par [(1,.ci 0),(2,.ci 0)]]) .ret) .skip)) (.seq (.cg 0 [] [.f 0 9 (.cl 81 #[.t 26,.const (.int .i64 10),.const (.int .i64 40)] #[9,3,3]) [(26,.slB (.v 0) (.ci 1) (.v 3))],.par [(4,.extract (.v 9) 0),(5,.extract (.v 9) 1)]]) (.seq (.seq (.cg 0 [] [.f 0 10 (.binOp .neq 120 (.t 30) (.const .nilIface) 120) [(30,.v 5)],.par [(11,.or (.v 10) (.bin .gtr 118 (.v 4) (.cst (.int .u64 1073741824))))]]) (.cond 11 (.seq (.cg 0 [] [.par [(1,.ci 0),(2,.ci 0)]]) .ret) .skip)) (.seq (.cg 1 [] [.par [(1,.toInt .i64 (.v 4)),(2,.bin .add 3 (.v 3) (.ci 1))]]) .ret))))))) [.v 1,.v 2])
theorem RL:an cfg Tryz.f40=some Af:=by kernel_rfl
def JH:bT:=by refine (?f:_→_) (by conv=>lhs;cbv:an cfgS Tryz.f45=some ?x);exact fun _=>?x
theorem UI:an cfg Tryz.f45=some JH:=by kernel_rfl
def T9:bT:=by refine (?f:_→_) (by conv=>lhs;cbv:an cfgS Tryz.f48=some ?x);exact fun _=>?x
theorem T8:an cfg Tryz.f48=some T9:=by kernel_rfl
def JB:bT:=by refine (?f:_→_) (by conv=>lhs;cbv:an cfgS Tryz.f51=some ?x);exact fun _=>?x
theorem Uv:an cfg Tryz.f51=some JB:=by kernel_rfl
def JG:bT:=by refine (?f:_→_) (by conv=>lhs;cbv:an cfgS Tryz.f54=some ?x);exact fun _=>?x
theorem UF:an cfg Tryz.f54=some JG:=by kernel_rfl
def MY:bT:=by refine (?f:_→_) (by conv=>lhs;cbv:an cfgS Tryz.f57=some ?x);exact fun _=>?x
theorem Q7:an cfg Tryz.f57=some MY:=by kernel_rfl
def RS:bT:=by refine (?f:_→_) (by conv=>lhs;cbv:an cfgS Tryz.f60=some ?x);exact fun _=>?x
theorem RQ:an cfg Tryz.f60=some RS:=by kernel_rfl
def Pf:bT:=by refine (?f:_→_) (by conv=>lhs;cbv:an cfgS Tryz.f63=some ?x);exact fun _=>?x
theorem Tw:an cfg Tryz.f63=some Pf:=by kernel_rfl
def IV:bT:=by refine (?f:_→_) (by conv=>lhs;cbv:an cfgS Tryz.f66=some ?x);exact fun _=>?x
theorem Tc:an cfg Tryz.f66=some IV:=by kernel_rfl
def Ux:bT:=by refine (?f:_→_) (by conv=>lhs;cbv:an cfgS Tryz.f75=some ?x);exact fun _=>?x
theorem Uw:an cfg Tryz.f75=some Ux:=by kernel_rfl
def NC:bT:=by refine (?f:_→_) (by conv=>lhs;cbv:an cfgS Tryz.f78=some ?x);exact fun _=>?x
theorem RZ:an cfg Tryz.f78=some NC:=by kernel_rfl
def Hv:bT:=by refine (?f:_→_) (by conv=>lhs;cbv:an cfgS Tryz.f81=some ?x);exact fun _=>?x
theorem RI:an cfg Tryz.f81=some Hv:=by kernel_rfl
def NG:bT:=by refine (?f:_→_) (by conv=>lhs;cbv:an cfgS Tryz.f84=some ?x);exact fun _=>?x
theorem R1:an cfg Tryz.f84=some NG:=by kernel_rfl
def Ui:bT:=by refine (?f:_→_) (by conv=>lhs;cbv:an cfgS Tryz.f89=some ?x);exact fun _=>?x
theorem Uh:an cfg Tryz.f89=some Ui:=by kernel_rfl
def PS:bT:=(.mk [0,1,2,3,4,8,9,10,11,12,13,14,19,23,25,27,32,38,39,40,43,45,50,51,52,55,58,59,63,67,77,85,87,88,89] (.seq (.seq (.cg 2 [] [.f 0 4 (.box 26 (.t 0)) [(0,.v 0)],.f 1 5 (.alloc 46) []]) (.own [.mk 5 (some 2) 75 3])) (.seq (.cg 1 [] [.par [(12,.load 73 (.iaddr 24 (.lf 24 26 4 2) (.v 2)))],.f 0 6 (.alloc 73) [],.dT none 1 none none (.store 73 (.t 9) (.t 19)) [(9,.v 6),(19,.v 12)]]) (.seq (.cg 0 [] [.f 0 13 (.cl 93 #[.t 20,.t 21,.t 22] #[26,3,3]) [(20,.load 26 (.v 4)),(21,.v 1),(22,.v 2)],.par [(7,.v 13)]]) (.seq (.cg 0 [] [.f 0 14 (.cl 74 #[.t 24] #[9]) [(24,.v 7)],.par [(8,.v 14)]]) (.seq (.seq (.cg 2 [0,1] [.par [(15,.lf 3 73 6 0)],.dT (some [0,0,1]) 0 (some 16) none (.cl 75 #[.t 31] #[3]) [(31,.lf 3 73 6 2)],.dT (some [0,0,1]) 0 (some 17) none (.build 75 #[(0,.t 29),(1,.t 32),(2,.t 37)]) [(29,.v 8),(32,.v 16),(37,.bin .add 9 (.bin .add 9 (.v 7) (.cst (.str [32]))) (.lf 9 73 6 4))],.dT (some [0,0,1]) 0 (some 18) none (.buildSlice 44 1 #[(0,.t 38)]) [(38,.v 17)],.dT (some [0,1]) 1 (some 19) none (.build 46 #[(0,.t 27),(1,.t 28),(2,.t 39)]) [(27,.v 15),(28,.v 7),(39,.v 18)],.dT (some [0,0,1]) 1 (some 9) none (.alloc 46) [],.dT none 2 none none (.store 46 (.t 12) (.t 40)) [(12,.v 9),(40,.v 19)]]) (.own [.mk 9 (some 2) 75 3])) (.seq (.seq (.rp 20 (.bin .neq 9 (.lf 9 73 6 3) (.cst (.str [])))) (.cond 20 (.cg 2 [] [.par [(21,.lf 44 46 9 2)],.f 0 22 (.build 75 #[(0,.t 47),(1,.const (.string (.mk #[109,97,114,107]))),(2,.t 49)]) [(47,.bin .add 3 (.v 8) (.ci 1)),(49,.lf 9 73 6 3)],.f 0 23 (.buildSlice 44 1 #[(0,.t 50)]) [(50,.v 22)],.f 1 24 (.call (.mk (.builtin .append) #[.t 45,.t 51] #[44,44])) [(45,.v 21),(51,.v 23)],.dT none 2 none none (.store 44 (.t 53) (.t 52)) [(53,.faddr 46 (.v 9) 2),(52,.v 24)]]) .skip)) (.seq (.cg 0 [] [.par [(25,.lf 71 73 6 5)],.dT (some [0]) 0 (some 26) none (.cl 96 #[.t 56,.t 57] #[26,9]) [(56,.load 26 (.v 4)),(57,.v 3)],.f 0 27 (.cl 95 #[.t 55,.t 58] #[71,22]) [(55,.v 25),(58,.v 26)],.par [(10,.v 27)]]) (.seq (.seq (.rp 11 (.ci 0)) (.block 0 (.loop [0,1,2,6,7,12,13,14,15,16,17,18,19,20,21,22,23,24,25,26,27,28,29,30,31,32,33,34,1029] (.seq (.seq (.rp 28 (.bin .lss 3 (.v 11) (.len 71 (.v 10)))) (.cond 28 .skip (.exit 0))) (.seq (.block 1 (.cg 2 [0,1] [.par [(29,.lf 44 46 9 2)],.dT (some [0,0,1]) 0 (some 30) none (.cl 102 #[.t 70,.t 75,.t 76] #[26,3,9]) [(70,.load 26 (.v 4)),(75,.load 3 (.faddr 79 (.iaddr 71 (.v 10) (.v 11)) 0)),(76,.v 3)],.dT (some [0,0,1]) 0 (some 31) none (.cl 147 #[.t 79,.t 84] #[26,9]) [(79,.load 26 (.v 4)),(84,.load 9 (.faddr 79 (.iaddr 71 (.v 10) (.v 11)) 2))],.dT (some [0,0,1]) 0 (some 32) none (.build 75 #[(0,.t 69),(1,.const (.string (.mk #[112]))),(2,.t 86)]) [(69,.bin .add 3 (.v 8) (.ci 1)),(86,.bin .add 9 (.bin .add 9 (.v 30) (.cst (.str [58,32]))) (.v 31))],.dT (some [0,0,1]) 0 (some 33) none (.buildSlice 44 1 #[(0,.t 87)]) [(87,.v 32)],.f 1 34 (.call (.mk (.builtin .append) #[.t 67,.t 88] #[44,44])) [(67,.v 29),(88,.v 33)],.dT none 2 none none (.store 44 (.t 90) (.t 89)) [(90,.faddr 46 (.v 9) 2),(89,.v 34)]])) (.rp 11 (.bin .add 3 (.v 11) (.ci 1)))))))) (.seq (.cg 0 [] [.dT none 0 none none (.store 46 (.t 8) (.t 91)) [(8,.v 5),(91,.load 46 (.v 9))]]) .ret))))))))) [.cell 5 46])
theorem UH:an cfg Tryz.f92=some PS:=by kernel_rfl
def Ur:bT:=by refine (?f:_→_) (by conv=>lhs;cbv:an cfgS Tryz.f95=some ?x);exact fun _=>?x
theorem Uq:an cfg Tryz.f95=some Ur:=by kernel_rfl
def PF:bT:=(.mk [0,1,2,3,4,8,13,20,38,43,44,53,75,77,103] (.seq (.cg 1 [] [.f 0 1 (.box 26 (.t 0)) [(0,.v 0)],.par [(2,.ci 0)]]) (.seq (.seq (.rp 5 (.bin .gtr 3 (.len 23 (.lf 23 26 1 1)) (.ci 256))) (.cond 5 (.seq (.rp 2 (.ci 8)) .ret) .skip)) (.seq (.seq (.rp 3 (.ci 0)) (.block 0 (.loop [0,2,4,5,6,7,8,9,10,11,13,14] (.seq (.seq (.rp 6 (.bin .lss 3 (.v 3) (.len 23 (.lf 23 26 1 1)))) (.cond 6 .skip (.exit 0))) (.seq (.block 1 (.seq (.cg 1 [] [.par [(7,.load 77 (.iaddr 23 (.lf 23 26 1 1) (.v 3)))],.f 0 4 (.alloc 77) [],.dT none 1 none none (.store 77 (.t 4) (.t 20)) [(4,.v 4),(20,.v 7)]]) (.seq (.seq (.rp 8 (.or (.or (.or (.bin .lss 3 (.lf 3 77 4 0) (.ci 1)) (.bin .gtr 3 (.lf 3 77 4 0) (.ci 64))) (.bin .lss 3 (.lf 3 77 4 3) (.ci 0))) (.bin .gtr 3 (.lf 3 77 4 3) (.ci 3)))) (.cond 8 (.seq (.rp 2 (.ci 2)) .ret) .skip)) (.seq (.seq (.cg 0 [] [.f 0 9 (.cl 52 #[.t 40,.t 42] #[22,9]) [(40,.lf 22 26 1 0),(42,.lf 9 77 4 1)],.par [(10,.un .not (.v 9))]]) (.cond 10 (.seq (.rp 2 (.ci 7)) .ret) .skip)) (.seq (.seq (.rp 11 (.or (.bin .eql 9 (.lf 9 77 4 2) (.cst (.str []))) (.bin .gtr 3 (.lenS (.lf 9 77 4 2)) (.ci 64)))) (.cond 11 (.seq (.rp 2 (.ci 4)) .ret) .skip)) (.seq (.seq (.cg 0 [] [.dT none 0 (some 12) (some (.bin .gtr 3 (.v 3) (.ci 0),true)) (.cl 150 #[.t 63,.t 70,.t 72,.t 74] #[3,9,3,9]) [(63,.load 3 (.faddr 77 (.iaddr 23 (.lf 23 26 1 1) (.bin .sub 3 (.v 3) (.ci 1))) 0)),(70,.load 9 (.faddr 77 (.iaddr 23 (.lf 23 26 1 1) (.bin .sub 3 (.v 3) (.ci 1))) 1)),(72,.lf 3 77 4 0),(74,.lf 9 77 4 1)],.par [(13,.and (.bin .gtr 3 (.v 3) (.ci 0)) (.un .not (.v 12)))]]) (.cond 13 (.seq (.rp 2 (.ci 5)) .ret) .skip)) (.seq (.rp 14 (.and (.and (.bin .gtr 3 (.v 3) (.ci 0)) (.bin .eql 3 (.load 3 (.faddr 77 (.iaddr 23 (.lf 23 26 1 1) (.bin .sub 3 (.v 3) (.ci 1))) 0)) (.lf 3 77 4 0))) (.bin .neq 3 (.load 3 (.faddr 77 (.iaddr 23 (.lf 23 26 1 1) (.bin .sub 3 (.v 3) (.ci 1))) 3)) (.lf 3 77 4 3)))) (.cond 14 (.seq (.rp 2 (.ci 10)) .ret) .skip)))))))) (.rp 3 (.bin .add 3 (.v 3) (.ci 1)))))))) (.seq (.rp 2 (.ci 0)) .ret)))) [.v 2])
theorem Uf:an cfg Tryz.f98=some PF:=by kernel_rfl
def MT:bT:=by refine (?f:_→_) (by conv=>lhs;cbv:an cfgS Tryz.f102=some ?x);exact fun _=>?x
theorem PI:an cfg Tryz.f102=some MT:=by kernel_rfl
def Hi:bT:=by refine (?f:_→_) (by conv=>lhs;cbv:an cfgS Tryz.f105=some ?x);exact fun _=>?x
theorem Na:an cfg Tryz.f105=some Hi:=by kernel_rfl
def LS:bT:=by refine (?f:_→_) (by conv=>lhs;cbv:an cfgS Tryz.f108=some ?x);exact fun _=>?x
theorem Nc:an cfg Tryz.f108=some LS:=by kernel_rfl
def L9:bT:=by refine (?f:_→_) (by conv=>lhs;cbv:an cfgS Tryz.f111=some ?x);exact fun _=>?x
theorem Nv:an cfg Tryz.f111=some L9:=by kernel_rfl
def MM:bT:=(.mk [0,1,2,4,6,7,8,9,10,11,17,30,31,46] (.seq (.cg 1 [] [.f 0 3 (.box 28 (.t 1)) [(1,.v 1)],.par [(4,.ci 0),(5,.cst (.bool false))]]) (.seq (.rp 6 (.len 31 (.v 0))) (.seq (.cg 0 [] [.par [(7,.ci 0),(8,.v 6)]]) (.seq (.block 0 (.loop [1,4,5,9,10,11,12] (.seq (.seq (.rp 10 (.bin .lss 3 (.v 7) (.v 8))) (.cond 10 .skip (.exit 0))) (.block 1 (.seq (.cg 2 [] [.par [(9,.toInt .i64 (.bin .shr 125 (.toInt .u64 (.bin .add 3 (.v 7) (.v 8))) (.cst (.int .u64 1))))]]) (.seq (.cg 0 [] [.f 0 11 (.call (.mk (.value (.t 24)) #[.t 28,.t 29] #[57,28])) [(24,.v 2),(28,.load 57 (.iaddr 31 (.v 0) (.v 9))),(29,.load 28 (.v 3))],.par [(12,.bin .lss 3 (.v 11) (.ci 0))]]) (.cond 12 (.rp 7 (.bin .add 3 (.v 9) (.ci 1))) (.rp 8 (.v 9))))))))) (.seq (.cg 0 [] [.dT none 0 (some 13) (some (.bin .lss 3 (.v 7) (.v 6),true)) (.call (.mk (.value (.t 40)) #[.t 44,.t 45] #[57,28])) [(40,.v 2),(44,.load 57 (.iaddr 31 (.v 0) (.v 7))),(45,.load 28 (.v 3))],.par [(4,.v 7),(5,.and (.bin .lss 3 (.v 7) (.v 6)) (.bin .eql 3 (.v 13) (.ci 0)))]]) .ret))))) [.v 4,.v 5])
theorem Pe:an cfg Tryz.f114=some MM:=by kernel_rfl
def MK:bT:=by refine (?f:_→_) (by conv=>lhs;cbv:an cfgS Tryz.f117=some ?x);exact fun _=>?x
theorem Pa:an cfg Tryz.f117=some MK:=by kernel_rfl
def MP:bT:=by refine (?f:_→_) (by conv=>lhs;cbv:an cfgS Tryz.f121=some ?x);exact fun _=>?x
theorem Pp:an cfg Tryz.f121=some MP:=by kernel_rfl
def LW:bT:=by refine (?f:_→_) (by conv=>lhs;cbv:an cfgS Tryz.f126=some ?x);exact fun _=>?x
theorem No:an cfg Tryz.f126=some LW:=by kernel_rfl
def Hu:bT:=(.mk [0,1,2,6,7,8,9,10,11,12,13,15,16,17,19,20,24,25,32,37,40,47,52,59,64,71,77,83,84,85,90,92,99,100,101,102,105,106,112,121,123,127,131,137,138,141,143,159,161,167,169,170] (.seq (.cg 0 [] [.par [(3,.cst (.int .u64 0)),(4,.cst (.gj false))]]) (.seq (.seq (.rp 14 (.bin .eql 9 (.v 0) (.cst (.str [])))) (.cond 14 (.seq (.cg 0 [] [.f 0 15 (.makeInterface 193 (.const (.int .i64 2))) [],.par [(3,.cst (.int .u64 0)),(4,.v 15)]]) .ret) .skip)) (.seq (.rp 5 (.bin .eql 3 (.v 1) (.ci 0))) (.seq (.rp 6 (.v 0)) (.seq (.block 0 (.seq (.rp 17 (.and (.bin .leq 3 (.ci 2) (.v 1)) (.bin .leq 3 (.v 1) (.ci 36)))) (.cond 17 .skip (.seq (.rp 18 (.bin .eql 3 (.v 1) (.ci 0))) (.cond 18 (.seq (.rp 1 (.ci 10)) (.seq (.rp 19 (.bin .eql 5 (.index 9 (.v 0) (.ci 0)) (.cst (.int .u8 48)))) (.cond 19 (.block 1 (.seq (.cg 0 [] [.dT none 0 (some 21) (some (.bin .geq 3 (.lenS (.v 0)) (.ci 3),true)) (.cl 170 #[.t 46] #[5]) [(46,.index 9 (.v 0) (.ci 1))],.par [(20,.and (.bin .geq 3 (.lenS (.v 0)) (.ci 3)) (.bin .eql 5 (.v 21) (.cst (.int .u8 98))))]]) (.cond 20 (.seq (.rp 1 (.ci 2)) (.rp 0 (.slL (.v 0) (.ci 2)))) (.seq (.cg 0 [] [.dT none 0 (some 23) (some (.bin .geq 3 (.lenS (.v 0)) (.ci 3),true)) (.cl 170 #[.t 58] #[5]) [(58,.index 9 (.v 0) (.ci 1))],.par [(22,.and (.bin .geq 3 (.lenS (.v 0)) (.ci 3)) (.bin .eql 5 (.v 23) (.cst (.int .u8 111))))]]) (.cond 22 (.seq (.rp 1 (.ci 8)) (.rp 0 (.slL (.v 0) (.ci 2)))) (.seq (.cg 0 [] [.dT none 0 (some 25) (some (.bin .geq 3 (.lenS (.v 0)) (.ci 3),true)) (.cl 170 #[.t 70] #[5]) [(70,.index 9 (.v 0) (.ci 1))],.par [(24,.and (.bin .geq 3 (.lenS (.v 0)) (.ci 3)) (.bin .eql 5 (.v 25) (.cst (.int .u8 120))))]]) (.cond 24 (.seq (.rp 1 (.ci 16)) (.rp 0 (.slL (.v 0) (.ci 2)))) (.seq (.rp 1 (.ci 8)) (.rp 0 (.slL (.v 0) (.ci 1))))))))))) .skip))) (.seq (.cg 0 [] [.f 0 16 (.makeInterface 193 (.const (.int .i64 3))) [],.par [(3,.cst (.int .u64 0)),(4,.v 16)]]) .ret)))))) (.seq (.seq (.rp 26 (.bin .eql 3 (.v 2) (.ci 0))) (.cond 26 (.rp 2 (.ci 64)) (.seq (.rp 27 (.or (.bin .lss 3 (.v 2) (.ci 0)) (.bin .gtr 3 (.v 2) (.ci 64)))) (.cond 27 (.seq (.cg 0 [] [.f 0 28 (.makeInterface 193 (.const (.int .i64 4))) [],.par [(3,.cst (.int .u64 0)),(4,.v 28)]]) .ret) .skip)))) (.seq (.rp 7 (.cst (.int .u64 0))) (.seq (.seq (.rp 29 (.v 1)) (.block 2 (.seq (.rp 30 (.bin .eql 3 (.v 29) (.ci 10))) (.cond 30 (.rp 7 (.cst (.int .u64 1844674407370955162))) (.seq (.rp 31 (.bin .eql 3 (.v 29) (.ci 16))) (.cond 31 (.rp 7 (.cst (.int .u64 1152921504606846976))) (.cg 1 [] [.par [(7,.bin .add 118 (.bin .quo 118 (.cst (.int .u64 18446744073709551615)) (.toInt .u64 (.v 1))) (.cst (.int .u64 1)))]]))))))) (.seq (.cg 1 [] [.par [(8,.bin .sub 118 (.bin .shl 118 (.cst (.int .u64 1)) (.toInt .u64 (.v 2))) (.cst (.int .u64 1)))]]) (.seq (.rp 9 (.cst (.bool false))) (.seq (.rp 10 (.cst (.int .u64 0))) (.seq (.seq (.cg 1 [] [.f 0 32 (.convert 9 157 (.t 98)) [(98,.v 0)],.par [(33,.len 157 (.v 32)),(34,.ci 0)]]) (.block 3 (.loop [0,2,3,4,11,12,13,14,15,16,17,18,19,20,21,22,23,24,25,26,27,28,29,30,31,35,36,37,38,39,40,42,43,44,45,46,47,48,50,51] (.seq (.rp 35 (.bin .lss 3 (.v 34) (.v 33))) (.seq (.cond 35 .skip (.exit 3)) (.seq (.block 4 (.seq (.rp 11 (.load 5 (.iaddr 157 (.v 32) (.v 34)))) (.seq (.rp 12 (.cst (.int .u8 0))) (.seq (.block 5 (.seq (.rp 37 (.and (.bin .eql 5 (.v 11) (.cst (.int .u8 95))) (.v 5))) (.cond 37 (.seq (.rp 9 (.cst (.bool true))) (.exit 4)) (.seq (.rp 38 (.and (.bin .leq 5 (.cst (.int .u8 48)) (.v 11)) (.bin .leq 5 (.v 11) (.cst (.int .u8 57))))) (.cond 38 (.rp 12 (.bin .sub 5 (.v 11) (.cst (.int .u8 48)))) (.seq (.cg 0 [] [.f 0 40 (.cl 170 #[.t 122] #[5]) [(122,.v 11)],.dT none 0 (some 41) (some (.bin .leq 5 (.cst (.int .u8 97)) (.v 40),true)) (.cl 170 #[.t 126] #[5]) [(126,.v 11)],.par [(39,.and (.bin .leq 5 (.cst (.int .u8 97)) (.v 40)) (.bin .leq 5 (.v 41) (.cst (.int .u8 122))))]]) (.cond 39 (.cg 0 [] [.f 0 42 (.cl 170 #[.t 130] #[5]) [(130,.v 11)],.par [(12,.bin .add 5 (.bin .sub 5 (.v 42) (.cst (.int .u8 97))) (.cst (.int .u8 10)))]]) (.seq (.cg 0 [] [.f 0 36 (.makeInterface 193 (.const (.int .i64 2))) [],.par [(3,.cst (.int .u64 0)),(4,.v 36)]]) .ret)))))))) (.seq (.seq (.cg 1 [] [.par [(43,.bin .geq 5 (.v 12) (.toInt .u8 (.v 1)))]]) (.cond 43 (.seq (.cg 0 [] [.f 0 44 (.makeInterface 193 (.const (.int .i64 2))) [],.par [(3,.cst (.int .u64 0)),(4,.v 44)]]) .ret) .skip)) (.seq (.seq (.rp 45 (.bin .geq 118 (.v 10) (.v 7))) (.cond 45 (.seq (.cg 0 [] [.f 0 46 (.makeInterface 193 (.const (.int .i64 1))) [],.par [(3,.v 8),(4,.v 46)]]) .ret) .skip)) (.seq (.cg 1 [] [.par [(10,.bin .mul 118 (.v 10) (.toInt .u64 (.v 1)))]]) (.seq (.cg 1 [] [.par [(13,.bin .add 118 (.v 10) (.toInt .u64 (.v 12)))]]) (.seq (.seq (.rp 47 (.or (.bin .lss 118 (.v 13) (.v 10)) (.bin .gtr 118 (.v 13) (.v 8)))) (.cond 47 (.seq (.cg 0 [] [.f 0 48 (.makeInterface 193 (.const (.int .i64 1))) [],.par [(3,.v 8),(4,.v 48)]]) .ret) .skip)) (.rp 10 (.v 13))))))))))) (.rp 34 (.bin .add 3 (.v 34) (.ci 1))))))))) (.seq (.seq (.cg 0 [] [.dT none 0 (some 49) (some (.v 9,true)) (.cl 171 #[.t 166] #[9]) [(166,.v 6)],.par [(50,.and (.v 9) (.un .not (.v 49)))]]) (.cond 50 (.seq (.cg 0 [] [.f 0 51 (.makeInterface 193 (.const (.int .i64 2))) [],.par [(3,.cst (.int .u64 0)),(4,.v 51)]]) .ret) .skip)) (.seq (.cg 0 [] [.par [(3,.v 10),(4,.cst (.gj false))]]) .ret)))))))))))))) [.v 3,.v 4])
theorem Ht:an cfg Tryz.f132=some Hu:=by kernel_rfl
def LQ:bT:=(.mk [0,2] (.seq (.rp 1 (.cst (.bool false))) (.seq (.rp 1 (.bin .neq 3 (.v 0) (.v 0))) .ret)) [.v 1])
theorem M4:an cfg Tryz.f146=some LQ:=by kernel_rfl
def Ju:bT:=by refine (?f:_→_) (by conv=>lhs;cbv:an cfgS Tryz.f149=some ?x);exact fun _=>?x
theorem PD:an cfg Tryz.f149=some Ju:=by kernel_rfl
def I9:bT:=by refine (?f:_→_) (by conv=>lhs;cbv:an cfgS Tryz.f152=some ?x);exact fun _=>?x
theorem Pk:an cfg Tryz.f152=some I9:=by kernel_rfl
def LP:bT:=by refine (?f:_→_) (by conv=>lhs;cbv:an cfgS Tryz.f156=some ?x);exact fun _=>?x
theorem MZ:an cfg Tryz.f156=some LP:=by kernel_rfl
def I0:bT:=by refine (?f:_→_) (by conv=>lhs;cbv:an cfgS Tryz.f159=some ?x);exact fun _=>?x
theorem O5:an cfg Tryz.f159=some I0:=by kernel_rfl
def IY:bT:=by refine (?f:_→_) (by conv=>lhs;cbv:an cfgS Tryz.f162=some ?x);exact fun _=>?x
theorem O3:an cfg Tryz.f162=some IY:=by kernel_rfl
def LR:bT:=(.mk [0,2] (.seq (.rp 1 (.cst (.bool false))) (.seq (.rp 1 (.bin .neq 9 (.v 0) (.v 0))) .ret)) [.v 1])
theorem M5:an cfg Tryz.f184=some LR:=by kernel_rfl
def L5:bT:=by refine (?f:_→_) (by conv=>lhs;cbv:an cfgS Tryz.f170=some ?x);exact fun _=>?x
theorem Nr:an cfg Tryz.f170=some L5:=by kernel_rfl
def Pv:bT:=(.mk [0,1,2,3,4,5,6,7,47,52,61,66,86,91,98,126,131,171] (.seq (.cg 1 [] [.f 0 1 (.box 26 (.t 0)) [(0,.v 0)],.par [(2,.cst (.bool false))]]) (.seq (.seq (.rp 8 (.or (.or (.or (.or (.bin .gtr 3 (.len 22 (.lf 22 26 1 0)) (.ci 10)) (.and (.bin .gtr 3 (.len 23 (.lf 23 26 1 1)) (.ci 20)) (.bin .leq 3 (.len 23 (.lf 23 26 1 1)) (.ci 256)))) (.bin .gtr 3 (.len 23 (.lf 23 26 1 1)) (.ci 257))) (.and (.bin .gtr 3 (.len 24 (.lf 24 26 1 2)) (.ci 14)) (.bin .leq 3 (.len 24 (.lf 24 26 1 2)) (.ci 256)))) (.bin .gtr 3 (.len 24 (.lf 24 26 1 2)) (.ci 257)))) (.cond 8 (.seq (.rp 2 (.cst (.bool false))) .ret) .skip)) (.seq (.seq (.rp 3 (.ci 0)) (.block 0 (.loop [0,2,4,5,6,7,8,9,10,11,12,13,14,15,16,17] (.seq (.seq (.rp 9 (.bin .lss 3 (.v 3) (.len 22 (.lf 22 26 1 0)))) (.cond 9 .skip (.exit 0))) (.seq (.block 1 (.seq (.rp 10 (.bin .gtr 3 (.lenS (.load 9 (.iaddr 22 (.lf 22 26 1 0) (.v 3)))) (.ci 10))) (.cond 10 (.seq (.rp 2 (.cst (.bool false))) .ret) .skip))) (.rp 3 (.bin .add 3 (.v 3) (.ci 1)))))))) (.seq (.seq (.rp 4 (.ci 0)) (.block 2 (.loop [0,2,3,5,6,7,8,9,10,11,12,13,14,15,16,17] (.seq (.seq (.rp 11 (.bin .lss 3 (.v 4) (.len 23 (.lf 23 26 1 1)))) (.cond 11 .skip (.exit 2))) (.seq (.block 3 (.seq (.rp 12 (.or (.bin .gtr 3 (.lenS (.load 9 (.faddr 77 (.iaddr 23 (.lf 23 26 1 1) (.v 4)) 2))) (.ci 70)) (.bin .gtr 3 (.lenS (.load 9 (.faddr 77 (.iaddr 23 (.lf 23 26 1 1) (.v 4)) 1))) (.ci 10)))) (.cond 12 (.seq (.rp 2 (.cst (.bool false))) .ret) .skip))) (.rp 4 (.bin .add 3 (.v 4) (.ci 1)))))))) (.seq (.seq (.rp 5 (.ci 0)) (.block 4 (.loop [0,2,3,4,6,7,8,9,10,11,12,13,14,15,16,17] (.seq (.seq (.rp 13 (.bin .lss 3 (.v 5) (.len 24 (.lf 24 26 1 2)))) (.cond 13 .skip (.exit 4))) (.seq (.block 5 (.seq (.cg 1 [] [.par [(14,.load 73 (.iaddr 24 (.lf 24 26 1 2) (.v 5)))],.f 0 6 (.alloc 73) [],.dT none 1 none none (.store 73 (.t 6) (.t 98)) [(6,.v 6),(98,.v 14)]]) (.seq (.seq (.rp 15 (.or (.or (.or (.bin .gtr 3 (.lenS (.lf 9 73 6 3)) (.ci 70)) (.bin .gtr 3 (.lenS (.lf 9 73 6 4)) (.ci 70))) (.and (.bin .gtr 3 (.len 71 (.lf 71 73 6 5)) (.ci 6)) (.bin .leq 3 (.len 71 (.lf 71 73 6 5)) (.ci 32)))) (.bin .gtr 3 (.len 71 (.lf 71 73 6 5)) (.ci 33)))) (.cond 15 (.seq (.rp 2 (.cst (.bool false))) .ret) .skip)) (.seq (.rp 7 (.ci 0)) (.block 6 (.loop [0,2,3,4,8,9,10,11,12,13,14,15,16,17] (.seq (.seq (.rp 16 (.bin .lss 3 (.v 7) (.len 71 (.lf 71 73 6 5)))) (.cond 16 .skip (.exit 6))) (.seq (.block 7 (.seq (.rp 17 (.or (.or (.bin .gtr 3 (.lenS (.load 9 (.faddr 79 (.iaddr 71 (.lf 71 73 6 5) (.v 7)) 1))) (.ci 10)) (.and (.bin .gtr 3 (.lenS (.load 9 (.faddr 79 (.iaddr 71 (.lf 71 73 6 5) (.v 7)) 2))) (.ci 60)) (.bin .leq 3 (.lenS (.load 9 (.faddr 79 (.iaddr 71 (.lf 71 73 6 5) (.v 7)) 2))) (.ci 4096)))) (.bin .gtr 3 (.lenS (.load 9 (.faddr 79 (.iaddr 71 (.lf 71 73 6 5) (.v 7)) 2))) (.ci 4097)))) (.cond 17 (.seq (.rp 2 (.cst (.bool false))) .ret) .skip))) (.rp 7 (.bin .add 3 (.v 7) (.ci 1))))))))))) (.rp 5 (.bin .add 3 (.v 5) (.ci 1)))))))) (.seq (.rp 2 (.cst (.bool true))) .ret)))))) [.v 2])
theorem TU:an cfg Tryz.f11=some Pv:=by kernel_rfl
def Lz:bT:=by refine (?f:_→_→_) (by conv=>lhs;cbv:(Tryz.f14.body.map fun a=>H7 cfgS Tryz.f14 a)=some ?k) (by conv=>lhs;cbv:y8 cfgS ?k Tryz.f14=some ?x);exact fun _ _=>?x
theorem Jt:an cfg Tryz.f14=some Lz:=by kernel_rfl
def Cr:bT:=by refine (?f:_→_) (by conv=>lhs;cbv:an cfgS Tryz.f17=some ?x);exact fun _=>?x
theorem T7:an cfg Tryz.f17=some Cr:=by kernel_rfl
def NB:bT:=by refine (?f:_→_) (by conv=>lhs;cbv:an cfgS Tryz.f38=some ?x);exact fun _=>?x
theorem RV:an cfg Tryz.f38=some NB:=by kernel_rfl
def GD:bT:=by refine (?f:_→_) (by conv=>lhs;cbv:an cfgS Tryz.f41=some ?x);exact fun _=>?x
theorem Te:an cfg Tryz.f41=some GD:=by kernel_rfl
def JE:bT:=by refine (?f:_→_) (by conv=>lhs;cbv:an cfgS Tryz.f46=some ?x);exact fun _=>?x
theorem UE:an cfg Tryz.f46=some JE:=by kernel_rfl
def G7:bT:=by refine (?f:_→_) (by conv=>lhs;cbv:an cfgS Tryz.f49=some ?x);exact fun _=>?x
theorem UA:an cfg Tryz.f49=some G7:=by kernel_rfl
def Ub:bT:=by refine (?f:_→_) (by conv=>lhs;cbv:an cfgS Tryz.f52=some ?x);exact fun _=>?x
theorem Ua:an cfg Tryz.f52=some Ub:=by kernel_rfl
def PR:bT:=by refine (?f:_→_) (by conv=>lhs;cbv:an cfgS Tryz.f55=some ?x);exact fun _=>?x
theorem UG:an cfg Tryz.f55=some PR:=by kernel_rfl
def Rq:bT:=by refine (?f:_→_) (by conv=>lhs;cbv:an cfgS Tryz.f58=some ?x);exact fun _=>?x
theorem Rp:an cfg Tryz.f58=some Rq:=by kernel_rfl
def RX:bT:=by refine (?f:_→_) (by conv=>lhs;cbv:an cfgS Tryz.f61=some ?x);exact fun _=>?x
theorem RW:an cfg Tryz.f61=some RX:=by kernel_rfl
def tN:bT:=(.mk [0,2,3,4,5,6,7,8,9,10,11,12,14,15,16,17,19,20,23,24,27,33,37,39,44,61,69,75,88,91,92,93,94,99,122,125,127,128] (.seq (.seq (.cg 1 [] [.f 0 1 (.alloc 73) [],.par [(2,.cst (.bool false))]]) (.own [.mk 1 (some 5) 79 3])) (.seq (.seq (.cg 1 [] [.f 0 3 (.alloc 73) []]) (.own [.mk 3 (some 5) 79 3])) (.seq (.seq (.cg 0 [] [.f 0 16 (.cl 116 #[.t 18,.const (.string (.mk #[10]))] #[9,9]) [(18,.v 0)],.par [(17,.un .not (.v 16))]]) (.cond 17 (.seq (.cg 0 [] [.dT none 0 none none (.store 73 (.t 2) (.t 21)) [(2,.v 1),(21,.load 73 (.v 3))],.par [(2,.cst (.bool false))]]) .ret) .skip)) (.seq (.cg 0 [] [.f 0 18 (.cl 118 #[.t 22,.const (.string (.mk #[10]))] #[9,9]) [(22,.v 0)],.f 0 19 (.cl 117 #[.t 23,.const (.string (.mk #[10]))] #[9,9]) [(23,.v 18)],.par [(4,.v 19)]]) (.seq (.seq (.rp 20 (.bin .lss 3 (.len 22 (.v 4)) (.ci 2))) (.cond 20 (.seq (.cg 0 [] [.dT none 0 none none (.store 73 (.t 2) (.t 28)) [(2,.v 1),(28,.load 73 (.v 3))],.par [(2,.cst (.bool false))]]) .ret) .skip)) (.seq (.cg 0 [] [.f 0 21 (.cl 119 #[.t 32,.const (.string (.mk #[32]))] #[9,9]) [(32,.load 9 (.iaddr 22 (.v 4) (.ci 0)))],.par [(5,.extract (.v 21) 0),(6,.extract (.v 21) 1),(7,.extract (.v 21) 2)]]) (.seq (.cg 0 [] [.f 0 22 (.cl 120 #[.const (.string (.mk #[102,111,110,100,115,32,115,101,114,105,101,115,32,102,105,108,101,32,105,116,101,109]))] #[9]) [],.f 0 23 (.cl 107 #[.t 37,.t 38] #[22,9]) [(37,.v 22),(38,.v 5)],.dT none 0 none none (.store 3 (.t 41) (.t 40)) [(41,.faddr 73 (.v 3) 2),(40,.bin .add 3 (.v 23) (.ci 1))]]) (.seq (.cg 0 [] [.f 0 24 (.cl 121 #[.t 43] #[9]) [(43,.v 6)],.par [(8,.extract (.v 24) 0),(9,.extract (.v 24) 1)]]) (.seq (.seq (.rp 25 (.or (.or (.or (.un .not (.v 7)) (.un .not (.v 9))) (.bin .eql 3 (.lf 3 73 3 2) (.ci 0))) (.bin .eql 9 (.v 8) (.cst (.str []))))) (.cond 25 (.seq (.cg 0 [] [.dT none 0 none none (.store 73 (.t 2) (.t 62)) [(2,.v 1),(62,.load 73 (.v 3))],.par [(2,.cst (.bool false))]]) .ret) .skip)) (.seq (.cg 0 [] [.dT none 0 none none (.store 9 (.t 64) (.t 63)) [(64,.faddr 73 (.v 3) 4),(63,.v 8)]]) (.seq (.cg 0 [] [.f 0 26 (.cl 119 #[.t 68,.const (.string (.mk #[32]))] #[9,9]) [(68,.load 9 (.iaddr 22 (.v 4) (.ci 1)))],.par [(7,.extract (.v 26) 2),(10,.extract (.v 26) 0),(11,.extract (.v 26) 1)]]) (.seq (.seq (.cg 0 [] [.f 0 27 (.cl 121 #[.t 74] #[9]) [(74,.v 11)],.dT none 0 none none (.store 9 (.t 78) (.t 76)) [(78,.faddr 73 (.v 3) 3),(76,.extract (.v 27) 0)],.par [(9,.extract (.v 27) 1)]]) (.seq (.rp 28 (.or (.or (.un .not (.v 7)) (.un .not (.v 9))) (.bin .neq 9 (.v 10) (.cst (.str [109,97,114,107]))))) (.cond 28 (.seq (.cg 0 [] [.dT none 0 none none (.store 73 (.t 2) (.t 89)) [(2,.v 1),(89,.load 73 (.v 3))],.par [(2,.cst (.bool false))]]) .ret) .skip))) (.seq (.seq (.cg 0 [] [.f 0 29 (.slice 22 (.t 90) (some (.const (.int .i64 2))) none none) [(90,.v 4)],.par [(30,.len 22 (.v 29)),(31,.ci 0)]]) (.block 0 (.loop [0,2,4,5,6,7,8,9,10,11,12,13,14,15,16,17,18,19,20,21,22,23,24,25,26,27,28,32,33,34,35,36,37,1035] (.seq (.rp 32 (.bin .lss 3 (.v 31) (.v 30))) (.seq (.cond 32 .skip (.exit 0)) (.seq (.block 1 (.seq (.rp 12 (.load 9 (.iaddr 22 (.v 29) (.v 31)))) (.seq (.cg 1 [] [.f 0 33 (.cl 122 #[.t 98] #[9]) [(98,.v 12)],.f 0 13 (.alloc 79) [],.dT none 1 none none (.store 79 (.t 15) (.t 100)) [(15,.v 13),(100,.extract (.v 33) 0)],.par [(14,.extract (.v 33) 1)]]) (.seq (.seq (.rp 15 (.len 71 (.lf 71 73 3 5))) (.seq (.rp 34 (.or (.un .not (.v 14)) (.and (.bin .gtr 3 (.v 15) (.ci 0)) (.bin .geq 3 (.load 3 (.faddr 79 (.iaddr 71 (.lf 71 73 3 5) (.bin .sub 3 (.v 15) (.ci 1))) 0)) (.lf 3 79 13 0))))) (.cond 34 (.seq (.cg 0 [] [.dT none 0 none none (.store 73 (.t 2) (.t 123)) [(2,.v 1),(123,.load 73 (.v 3))],.par [(2,.cst (.bool false))]]) .ret) .skip))) (.cg 2 [] [.par [(35,.lf 71 73 3 5)],.f 0 36 (.buildSlice 71 1 #[(0,.t 126)]) [(126,.load 79 (.v 13))],.f 1 37 (.call (.mk (.builtin .append) #[.t 125,.t 127] #[71,71])) [(125,.v 35),(127,.v 36)],.dT none 2 none none (.store 71 (.t 129) (.t 128)) [(129,.faddr 73 (.v 3) 5),(128,.v 37)]]))))) (.rp 31 (.bin .add 3 (.v 31) (.ci 1))))))))) (.seq (.cg 0 [] [.dT none 0 none none (.store 73 (.t 2) (.t 131)) [(2,.v 1),(131,.load 73 (.v 3))],.par [(2,.cst (.bool true))]]) .ret)))))))))))))) [.cell 1 73,.v 2])
theorem tB:an cfg Tryz.f64=some tN:=by kernel_rfl
def Ty:bT:=by refine (?f:_→_) (by conv=>lhs;cbv:an cfgS Tryz.f67=some ?x);exact fun _=>?x
theorem Tx:an cfg Tryz.f67=some Ty:=by kernel_rfl
def Ru:bT:=by refine (?f:_→_) (by conv=>lhs;cbv:an cfgS Tryz.f79=some ?x);exact fun _=>?x
theorem Rt:an cfg Tryz.f79=some Ru:=by kernel_rfl
def OY:bT:=by refine (?f:_→_) (by conv=>lhs;cbv:an cfgS Tryz.f82=some ?x);exact fun _=>?x
theorem Td:an cfg Tryz.f82=some OY:=by kernel_rfl
def Rh:bT:=by refine (?f:_→_) (by conv=>lhs;cbv:an cfgS Tryz.f87=some ?x);exact fun _=>?x
theorem Rg:an cfg Tryz.f87=some Rh:=by kernel_rfl
def Uk:bT:=by refine (?f:_→_) (by conv=>lhs;cbv:an cfgS Tryz.f90=some ?x);exact fun _=>?x
theorem Uj:an cfg Tryz.f90=some Uk:=by kernel_rfl
def PM:bT:=by refine (?f:_→_) (by conv=>lhs;cbv:an cfgS Tryz.f93=some ?x);exact fun _=>?x
theorem MV:an cfg Tryz.f93=some PM:=by kernel_rfl
def Uo:bT:=by refine (?f:_→_) (by conv=>lhs;cbv:an cfgS Tryz.f96=some ?x);exact fun _=>?x
theorem Un:an cfg Tryz.f96=some Uo:=by kernel_rfl
def JA:bT:=by refine (?f:_→_) (by conv=>lhs;cbv:an cfgS Tryz.f99=some ?x);exact fun _=>?x
theorem Uu:an cfg Tryz.f99=some JA:=by kernel_rfl
def Fz:bT:=by refine (?f:_→_) (by conv=>lhs;cbv:an cfgS Tryz.f103=some ?x);exact fun _=>?x
theorem PJ:an cfg Tryz.f103=some Fz:=by kernel_rfl
def Hm:bT:=by refine (?f:_→_) (by conv=>lhs;cbv:an cfgS Tryz.f106=some ?x);exact fun _=>?x
theorem Nh:an cfg Tryz.f106=some Hm:=by kernel_rfl
def LU:bT:=by refine (?f:_→_) (by conv=>lhs;cbv:an cfgS Tryz.f109=some ?x);exact fun _=>?x
theorem Nf:an cfg Tryz.f109=some LU:=by kernel_rfl
def EA:bT:=by refine (?f:_→_) (by conv=>lhs;cbv:an cfgS Tryz.f112=some ?x);exact fun _=>?x
theorem Nj:an cfg Tryz.f112=some EA:=by kernel_rfl
def ML:bT:=by refine (?f:_→_) (by conv=>lhs;cbv:an cfgS Tryz.f115=some ?x);exact fun _=>?x
theorem Pd:an cfg Tryz.f115=some ML:=by kernel_rfl
def MI:bT:=by refine (?f:_→_) (by conv=>lhs;cbv:an cfgS Tryz.f118=some ?x);exact fun _=>?x
theorem O8:an cfg Tryz.f118=some MI:=by kernel_rfl
def tA:bT:=(.mk [0,2,3,4,5,6,7,8,9,10,13,19,24,31,49,50,54] (.seq (.cg 1 [] [.f 0 1 (.alloc 79) [],.par [(2,.cst (.bool false))]]) (.seq (.cg 0 [] [.f 0 10 (.cl 119 #[.t 12,.const (.string (.mk #[32]))] #[9,9]) [(12,.v 0)],.par [(3,.extract (.v 10) 0),(4,.extract (.v 10) 1),(5,.extract (.v 10) 2)]]) (.seq (.cg 0 [] [.f 0 11 (.cl 81 #[.t 18,.const (.int .i64 10),.const (.int .i64 16)] #[9,3,3]) [(18,.v 3)],.par [(6,.extract (.v 11) 0),(7,.extract (.v 11) 1)]]) (.seq (.cg 0 [] [.f 0 12 (.cl 121 #[.t 23] #[9]) [(23,.v 4)],.par [(8,.extract (.v 12) 0),(9,.extract (.v 12) 1)]]) (.seq (.seq (.cg 0 [] [.dT none 0 (some 13) (some (.un .not (.v 5),false)) (.binOp .neq 120 (.t 30) (.const .nilIface) 120) [(30,.v 7)],.par [(14,.or (.or (.or (.or (.pick (.un .not (.v 5)) (.cst (.bool true)) (.v 13)) (.un .not (.v 9))) (.bin .eql 9 (.v 8) (.cst (.str [])))) (.bin .eql 5 (.index 9 (.v 3) (.ci 0)) (.cst (.int .u8 48)))) (.bin .gtr 118 (.v 6) (.cst (.int .u64 64))))]]) (.cond 14 (.seq (.cg 0 [] [.f 0 15 (.build 79 #[]) [],.dT none 0 none none (.store 79 (.t 2) (.t 50)) [(2,.v 1),(50,.v 15)],.par [(2,.cst (.bool false))]]) .ret) .skip)) (.seq (.cg 1 [] [.f 1 16 (.build 79 #[(0,.t 52),(2,.t 53)]) [(52,.toInt .i64 (.v 6)),(53,.v 8)],.dT none 1 none none (.store 79 (.t 2) (.t 54)) [(2,.v 1),(54,.v 16)],.par [(2,.cst (.bool true))]]) .ret)))))) [.cell 1 79,.v 2])
theorem Pc:an cfg Tryz.f122=some tA:=by kernel_rfl
def LY:bT:=by refine (?f:_→_) (by conv=>lhs;cbv:an cfgS Tryz.f127=some ?x);exact fun _=>?x
theorem Np:an cfg Tryz.f127=some LY:=by kernel_rfl
def MD:bT:=by refine (?f:_→_) (by conv=>lhs;cbv:an cfgS Tryz.f134=some ?x);exact fun _=>?x
theorem OX:an cfg Tryz.f134=some MD:=by kernel_rfl
def MU:bT:=by refine (?f:_→_) (by conv=>lhs;cbv:an cfgS Tryz.f147=some ?x);exact fun _=>?x
theorem PL:an cfg Tryz.f147=some MU:=by kernel_rfl
def Fx:bT:=by refine (?f:_→_) (by conv=>lhs;cbv:an cfgS Tryz.f150=some ?x);exact fun _=>?x
theorem PE:an cfg Tryz.f150=some Fx:=by kernel_rfl
def Hg:bT:=by refine (?f:_→_) (by conv=>lhs;cbv:an cfgS Tryz.f154=some ?x);exact fun _=>?x
theorem M8:an cfg Tryz.f154=some Hg:=by kernel_rfl
def Hj:bT:=by refine (?f:_→_) (by conv=>lhs;cbv:an cfgS Tryz.f157=some ?x);exact fun _=>?x
theorem Nb:an cfg Tryz.f157=some Hj:=by kernel_rfl
def MJ:bT:=by refine (?f:_→_) (by conv=>lhs;cbv:an cfgS Tryz.f160=some ?x);exact fun _=>?x
theorem O9:an cfg Tryz.f160=some MJ:=by kernel_rfl
def nq:bT:=by refine (?f:_→_) (by conv=>lhs;cbv:an cfgS Tryz.f165=some ?x);exact fun _=>?x
theorem Po:an cfg Tryz.f165=some nq:=by kernel_rfl
def MC:bT:=by refine (?f:_→_) (by conv=>lhs;cbv:an cfgS Tryz.f176=some ?x);exact fun _=>?x
theorem OW:an cfg Tryz.f176=some MC:=by kernel_rfl
def Fq:bT:=by refine (?f:_→_) (by conv=>lhs;cbv:an cfgS Tryz.f187=some ?x);exact fun _=>?x
theorem Pm:an cfg Tryz.f187=some Fq:=by kernel_rfl
end Go.Proofs.YtfnkchadeaedlaaGreatDoor
