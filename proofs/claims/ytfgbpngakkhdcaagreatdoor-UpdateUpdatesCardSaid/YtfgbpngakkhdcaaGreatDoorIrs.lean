/- The plainer forms of this program's functions (written by irprint.py). -/
import Derived.Test.YtfgbpngakkhdcaaGreatDoorTables
open Bool renaming false->A,true->B
open Option renaming none->w,some->h
open _root_ renaming Nat->F,Option->C
set_option linter.all false
namespace Go.Am
@[simp] def It.f (k d:F) (o:Op) (xs:List (F×E)):It:=.gJ w k (h d) w o xs
@[simp] def E.ci (n:Int):E:=.cst (.int .i64 n)
@[simp] def IR.rp (k:Nat) (e:E):IR:=.jC 0 [] [.par [(k,e)]]
@[simp] def E.v (n:F):E:=.var n
@[simp] def E.lf (t s v o:F):E:=.load t (.faddr s (.var v) o)
end Go.Am
namespace Go
@[simp] def Operand.t (n:F):Operand:=.tmp n
@[simp] def Op.cl (f:F) (a:Array Operand) (t:Array F):Op:=.call (.mk (.value (.func f)) a t)
end Go
namespace Go.Proofs.YtfgbpngakkhdcaaGreatDoor
open Go.Proofs.Tryz
open Go.Am
set_option maxRecDepth 100000
set_option maxHeartbeats 40000000
def rhs{b}(_:∃a:C TI,a=b):C TI:=b
def rhsE(d:TypeDesc){n s b z a e f}(_:∃d,cfg.ti n=h ⟨d,s,b,z,a,e,f⟩):C TI:=some ⟨d,s,b,z,a,e,f⟩
noncomputable def tyL:List (F×C TI):=[(3,rhs ⟨_,ti3⟩),(4,rhs ⟨_,ti4⟩),(5,rhs ⟨_,ti5⟩),(9,rhs ⟨_,ti9⟩),(20,rhsE (.interface #[]) ⟨_,aet⟩),(22,rhs ⟨_,aeu⟩),(23,rhs ⟨_,aev⟩),(24,rhs ⟨_,aew⟩),(26,rhsE (.struct #[]) ⟨_,aex⟩),(29,rhs ⟨_,aey⟩),(31,rhsE (.struct #[]) ⟨_,aez⟩),(32,rhs ⟨_,aeA⟩),(39,rhs ⟨_,aeB⟩),(46,rhs ⟨_,aeC⟩),(47,rhs ⟨_,aeD⟩),(49,rhsE (.struct #[]) ⟨_,aeE⟩),(55,rhs ⟨_,aeF⟩),(56,rhs ⟨_,aeG⟩),(57,rhsE (.struct #[]) ⟨_,aeH⟩),(58,rhsE (.struct #[]) ⟨_,aeI⟩),(60,rhsE (.struct #[]) ⟨_,aeJ⟩),(65,rhs ⟨_,aeK⟩),(72,rhs ⟨_,aeL⟩),(73,rhsE (.struct #[]) ⟨_,aeM⟩),(74,rhsE (.struct #[]) ⟨_,aeN⟩),(75,rhsE (.struct #[]) ⟨_,aeO⟩),(76,rhsE (.struct #[]) ⟨_,aeP⟩),(77,rhsE (.struct #[]) ⟨_,aeQ⟩),(78,rhsE (.struct #[]) ⟨_,aeR⟩),(79,rhsE (.struct #[]) ⟨_,aeS⟩),(80,rhsE (.struct #[]) ⟨_,aeT⟩),(86,rhs ⟨_,abM⟩),(99,rhsE (.struct #[]) ⟨_,aeU⟩),(101,rhs ⟨_,N9⟩),(110,rhs ⟨_,Pe⟩),(129,rhsE (.struct #[]) ⟨_,abN⟩),(134,rhs ⟨_,Sm⟩),(135,rhs ⟨_,Sn⟩),(137,rhs ⟨_,abO⟩),(166,rhsE (.struct #[]) ⟨_,abP⟩),(175,rhs ⟨_,abQ⟩),(176,rhs ⟨_,abR⟩),(178,rhsE (.struct #[]) ⟨_,abS⟩),(180,rhsE (.interface #[]) ⟨_,abT⟩),(215,rhs ⟨_,abU⟩),(216,rhs ⟨_,abV⟩),(218,rhsE (.struct #[]) ⟨_,abW⟩),(245,rhs ⟨_,abX⟩),(249,rhs ⟨_,abY⟩),(197,rhs ⟨_,ab7⟩),(148,rhs ⟨_,ab8⟩),(30,rhsE (.struct #[]) ⟨_,afd⟩),(48,rhsE (.struct #[]) ⟨_,afe⟩),(165,rhsE (.struct #[]) ⟨_,ab9⟩),(179,rhsE (.interface #[]) ⟨_,aca⟩)]
noncomputable def tyS:Tr (C TI):=(⟨_,by conv=>lhs;cbv⟩:{x//tyL.foldl (fun t p=>t.set p.1 p.2) (Tr.mk w 9 400)=x}).1
noncomputable def cfgS:aD:={ty:=tyS,fn:= .lf,ov:=L5,GN:=wL,ext:=exts,own:=RO,cut:=true,kg:=kg,GO:=RP,rH:=Lz}
noncomputable def iy (f:Func) (k:List F) (i j:F):Code->F->IR×F
  | .seq a b,n=>match iy f k i j a n with | (x,m)=>match iy f k i j b m with | (y,r)=>(.seq x y,r)
  | .block c a,n=>match iy f k i j a n with | (x,m)=>(.block c x,m)
  | .scope a,n=>iy f k i j a n
  | .cond (.tmp t) a b,n=>match iy f k i j a n with | (x,m)=>match iy f k i j b m with | (y,r)=>(match posOf k t with | some p=>.cond p x y | none=>.stuck,r)
  | .loop a,n=>match iy f k i j a n with | (x,m)=>(.loop [] x,m)
  | .region _ o d,n=>((match Nat.ble i n&&Nat.blt n j with | true=>(match Hl cfgS k f.ntmps o d with | some x=>x | none=>.stuck) | false=>.skip),n+1)
  | .ret,n=>(.ret,n)
  | .exit c,n=>(.exit c,n)
  | .skip,n=>(.skip,n)
  | .label _,n=>(.skip,n)
  | .rangeFunc (.tmp t) p a b,n=>((match posOf k t with | some x=>.td x ⟨p,a,b,k,f.ntmps⟩ | none=>.stuck),n)
  | .cond (.const v) a b,n=>match gH v with | .bool true=>iy f k i j a n | .bool false=>iy f k i j b n | _=>(.stuck,n)
  | _,n=>(.stuck,n)
def k8:IR->IR->IR
  | .seq a b,.seq c d=>.seq (k8 a c) (k8 b d)
  | .block i a,.block _ c=>.block i (k8 a c)
  | .cond p a b,.cond _ c d=>.cond p (k8 a c) (k8 b d)
  | .loop l a,.loop _ c=>.loop l (k8 a c)
  | .skip,x=>x
  | x,_=>x
noncomputable def R9 (f:Func) (k:List F) (l:IR):C bt:=match rX k f.results.toList with | some r=>h ⟨k,mU cfgS k.length (qo r) l [] (qo r),r⟩ | none=>w
def ir3:bt:=by refine (?f:_->_) (by conv=>lhs;cbv:aj cfgS f3=h ?x);exact fun _=>?x
theorem ad7:aj cfg f3=h ir3:=by kernel_rfl
def ir9:bt:=(.mk [0,1,2,3,4,5,6,7,8,9,11,12,15,23,28,29,30,36,56,57,58,59,63,64,68,73,75,79,80,81,82,83,84,88] (.seq (.rp 0 (.cst (.bool A))) (.seq (.jC 1 [] [.f 0 10 (.cl 34 #[] #[]) [],.f 0 11 (.cl 11 #[.t 11,.const (.int .i64 7),.const (.string (.mk #[101,110]))] #[26,3,9]) [(11,.v 10)],.f 0 1 (.alloc 31) [],.gJ w 1 w w (.store 31 (.t 1) (.t 13)) [(1,.v 1),(13,.extract (.v 11) 0)],.par [(2,.extract (.v 11) 1)]]) (.seq (.jC 1 [] [.f 0 12 (.cl 34 #[] #[]) [],.f 0 3 (.alloc 26) [],.gJ w 1 w w (.store 26 (.t 3) (.t 15)) [(3,.v 3),(15,.v 12)]]) (.seq (.jC 0 [] [.gJ w 0 w w (.store 9 (.t 19) (.const (.string (.mk #[71,97,116,101])))) [(19,.faddr 74 (.iaddr 24 (.lf 24 26 3 2) (.ci 1)) 4)]]) (.seq (.jC 1 [] [.f 0 13 (.cl 16 #[.t 21,.t 22] #[31,26]) [(21,.load 31 (.v 1)),(22,.load 26 (.v 3))],.f 0 4 (.alloc 31) [],.gJ w 1 w w (.store 31 (.t 4) (.t 24)) [(4,.v 4),(24,.extract (.v 13) 0)],.par [(5,.extract (.v 13) 1),(6,.extract (.v 13) 2)]]) (.seq (.jC 1 [] [.par [(14,.lf 24 26 3 2)],.f 0 15 (.build 76 #[(0,.const (.int .i64 2)),(1,.const (.string (.mk #[100,101]))),(2,.const (.string (.mk #[120])))]) [],.f 0 16 (.buildSlice 72 1 #[(0,.t 29)]) [(29,.v 15)],.gJ w 1 w w (.store 72 (.t 32) (.t 30)) [(32,.faddr 74 (.iaddr 24 (.v 14) (.ci 1)) 5),(30,.v 16)]]) (.seq (.jC 1 [] [.f 0 17 (.cl 16 #[.t 34,.t 35] #[31,26]) [(34,.load 31 (.v 4)),(35,.load 26 (.v 3))],.f 0 7 (.alloc 31) [],.gJ w 1 w w (.store 31 (.t 7) (.t 37)) [(7,.v 7),(37,.extract (.v 17) 0)],.par [(8,.extract (.v 17) 1),(9,.extract (.v 17) 2)]]) (.seq (.jC 4 [] [.par [(18,.and (.and (.and (.bin .eql 32 (.v 2) (.ci 0)) (.bin .eql 32 (.v 6) (.ci 0))) (.bin .eql 32 (.v 9) (.ci 0))) (.bin .eql 3 (.len 29 (.lf 29 31 1 2)) (.ci 2))),(19,.guard (.and (.and (.and (.bin .eql 32 (.v 2) (.ci 0)) (.bin .eql 32 (.v 6) (.ci 0))) (.bin .eql 32 (.v 9) (.ci 0))) (.bin .eql 3 (.len 29 (.lf 29 31 1 2)) (.ci 2))) B (.v 5))],.gJ w 0 (h 20) (h (.v 18,B)) (.buildSlice 39 2 #[(0,.const (.int .i64 7)),(1,.const (.int .i64 9))]) [],.gJ w 1 (h 21) (h (.v 18,B)) (.cl 21 #[.t 57,.t 58] #[39,39]) [(57,.v 19),(58,.v 20)],.gJ w 1 (h 22) (h (.pick (.v 18) (.v 21) (.cst (.bool A)),B)) (.buildSlice 39 1 #[(0,.const (.int .i64 9))]) [],.gJ w 2 (h 23) (h (.pick (.v 18) (.v 21) (.cst (.bool A)),B)) (.cl 21 #[.t 62,.t 63] #[39,39]) [(62,.v 8),(63,.v 22)],.gJ w 2 (h 24) (h (.pick (.pick (.v 18) (.v 21) (.cst (.bool A))) (.v 23) (.cst (.bool A)),B)) (.cl 24 #[.t 67] #[31]) [(67,.load 31 (.v 7))],.par [(34,.guard (.and (.pick (.pick (.v 18) (.v 21) (.cst (.bool A))) (.v 23) (.cst (.bool A))) (.bin .eql 3 (.len 47 (.field 49 (.v 24) 2)) (.ci 2))) B (.load 31 (.v 7)))],.par [(25,.and (.pick (.pick (.v 18) (.v 21) (.cst (.bool A))) (.v 23) (.cst (.bool A))) (.bin .eql 3 (.len 47 (.field 49 (.v 24) 2)) (.ci 2)))],.gJ w 2 (h 26) (h (.v 25,B)) (.cl 19 #[.t 74] #[31]) [(74,.guard (.and (.pick (.pick (.v 18) (.v 21) (.cst (.bool A))) (.v 23) (.cst (.bool A))) (.bin .eql 3 (.len 47 (.field 49 (.v 24) 2)) (.ci 2))) B (.load 31 (.v 7)))],.par [(27,.guard (.and (.v 25) (.bin .eql 32 (.v 26) (.ci 0))) B (.load 31 (.v 1)))],.gJ w 2 (h 28) (h (.and (.v 25) (.bin .eql 32 (.v 26) (.ci 0)),B)) (.build 78 #[(0,.const (.int .i64 4)),(1,.const (.int .i64 9))]) [],.gJ w 2 (h 29) (h (.and (.v 25) (.bin .eql 32 (.v 26) (.ci 0)),B)) (.buildSlice 65 1 #[(0,.t 80)]) [(80,.v 28)],.gJ w 3 (h 30) (h (.and (.v 25) (.bin .eql 32 (.v 26) (.ci 0)),B)) (.cl 30 #[.t 79,.t 81] #[31,65]) [(79,.v 27),(81,.v 29)],.gJ w 3 (h 31) (h (.and (.v 25) (.bin .eql 32 (.v 26) (.ci 0)),B)) (.buildSlice 39 1 #[(0,.const (.int .i64 7))]) [],.gJ w 4 (h 32) (h (.and (.v 25) (.bin .eql 32 (.v 26) (.ci 0)),B)) (.cl 21 #[.t 82,.t 83] #[39,39]) [(82,.v 30),(83,.v 31)],.gJ w 4 (h 33) (h (.pick (.and (.v 25) (.bin .eql 32 (.v 26) (.ci 0))) (.v 32) (.cst (.bool A)),B)) (.cl 29 #[.t 87] #[31]) [(87,.load 31 (.v 1))],.par [(0,.and (.pick (.and (.v 25) (.bin .eql 32 (.v 26) (.ci 0))) (.v 32) (.cst (.bool A))) (.bin .eql 3 (.len 65 (.v 33)) (.ci 6)))]]) .ret)))))))) [.v 0])
theorem afi:aj cfg f9=h ir9:=by kernel_rfl
def Om:bt:=by refine (?f:_->_) (by conv=>lhs;cbv:aj cfgS f12=h ?x);exact fun _=>?x
theorem aaI:aj cfg f12=h Om:=by kernel_rfl
def aaW:bt:=by refine (?f:_->_) (by conv=>lhs;cbv:aj cfgS f15=h ?x);exact fun _=>?x
theorem aaV:aj cfg f15=h aaW:=by kernel_rfl
def Rx:bt:=by refine (?f:_->_) (by conv=>lhs;cbv:aj cfgS f18=h ?x);exact fun _=>?x
theorem OE:aj cfg f18=h Rx:=by kernel_rfl
def WR:bt:=by refine (?f:_->_) (by conv=>lhs;cbv:aj cfgS f21=h ?x);exact fun _=>?x
theorem acF:aj cfg f21=h WR:=by kernel_rfl
def acz:bt:=by refine (?f:_->_) (by conv=>lhs;cbv:aj cfgS f24=h ?x);exact fun _=>?x
theorem acy:aj cfg f24=h acz:=by kernel_rfl
def aaK:bt:=by refine (?f:_->_) (by conv=>lhs;cbv:aj cfgS f27=h ?x);exact fun _=>?x
theorem aaJ:aj cfg f27=h aaK:=by kernel_rfl
def acE:bt:=by refine (?f:_->_) (by conv=>lhs;cbv:aj cfgS f30=h ?x);exact fun _=>?x
theorem acD:aj cfg f30=h acE:=by kernel_rfl
def O2:bt:=by refine (?f:_->_) (by conv=>lhs;cbv:aj cfgS f36=h ?x);exact fun _=>?x
theorem abt:aj cfg f36=h O2:=by kernel_rfl
def Rr:bt:=by refine (?f:_->_) (by conv=>lhs;cbv:aj cfgS f39=h ?x);exact fun _=>?x
theorem aaP:aj cfg f39=h Rr:=by kernel_rfl
def aaM:bt:=by refine (?f:_->_) (by conv=>lhs;cbv:aj cfgS f42=h ?x);exact fun _=>?x
theorem aaL:aj cfg f42=h aaM:=by kernel_rfl
def acP:bt:=by refine (?f:_->_) (by conv=>lhs;cbv:aj cfgS f45=h ?x);exact fun _=>?x
theorem acO:aj cfg f45=h acP:=by kernel_rfl
def Yn:bt:=by refine (?f:_->_) (by conv=>lhs;cbv:aj cfgS f48=h ?x);exact fun _=>?x
theorem Ym:aj cfg f48=h Yn:=by kernel_rfl
def YT:bt:=by refine (?f:_->_) (by conv=>lhs;cbv:aj cfgS f51=h ?x);exact fun _=>?x
theorem YS:aj cfg f51=h YT:=by kernel_rfl
def Ue:bt:=by refine (?f:_->_) (by conv=>lhs;cbv:aj cfgS f54=h ?x);exact fun _=>?x
theorem YW:aj cfg f54=h Ue:=by kernel_rfl
def Yd:bt:=by refine (?f:_->_) (by conv=>lhs;cbv:aj cfgS f59=h ?x);exact fun _=>?x
theorem Yc:aj cfg f59=h Yd:=by kernel_rfl
def acC:bt:=by refine (?f:_->_) (by conv=>lhs;cbv:aj cfgS f62=h ?x);exact fun _=>?x
theorem acB:aj cfg f62=h acC:=by kernel_rfl
def ach:bt:=(.mk [0,1,2,5,6,7,8,9] (.seq (.seq (.jC 2 [] [.f 0 1 (.box 60 (.t 0)) [(0,.v 0)],.f 1 2 (.alloc 60) []]) (.own [.mk 2 (h 0) 99 3])) (.seq (.alt [(0,([],[.f 0 3 (.cl 110 #[.t 4,.func 111] #[55,153]) [(4,.lf 55 60 1 0)],.par [(4,.faddr 60 (.v 1) 1),(5,.lf 58 60 1 1)],.f 0 6 (.cl 53 #[.t 7] #[58]) [(7,.v 5)],.f 0 7 (.build 60 #[(0,.t 5),(1,.t 8)]) [(5,.v 3),(8,.v 6)],.gJ w 0 w w (.store 60 (.t 2) (.t 9)) [(2,.v 2),(9,.v 7)]])),(0,([],[.par [(4,.faddr 60 (.v 1) 1)],.f 0 3 (.cl 110 #[.t 4,.func 111] #[55,153]) [(4,.lf 55 60 1 0)],.par [(5,.load 58 (.v 4))],.f 0 6 (.cl 53 #[.t 7] #[58]) [(7,.v 5)],.f 0 7 (.build 60 #[(0,.t 5),(1,.t 8)]) [(5,.v 3),(8,.v 6)],.gJ w 0 w w (.store 60 (.t 2) (.t 9)) [(2,.v 2),(9,.v 7)]])),(0,([],[.par [(4,.faddr 60 (.v 1) 1),(5,.lf 58 60 1 1)],.f 0 3 (.cl 110 #[.t 4,.func 111] #[55,153]) [(4,.lf 55 60 1 0)],.f 0 6 (.cl 53 #[.t 7] #[58]) [(7,.v 5)],.f 0 7 (.build 60 #[(0,.t 5),(1,.t 8)]) [(5,.v 3),(8,.v 6)],.gJ w 0 w w (.store 60 (.t 2) (.t 9)) [(2,.v 2),(9,.v 7)]]))]) .ret)) [.cell 2 60])
theorem acg:aj cfg f65=h ach:=by kernel_rfl
def aaY:bt:=by refine (?f:_->_) (by conv=>lhs;cbv:aj cfgS f68=h ?x);exact fun _=>?x
theorem aaX:aj cfg f68=h aaY:=by kernel_rfl
def aa9:bt:=by refine (?f:_->_) (by conv=>lhs;cbv:aj cfgS f71=h ?x);exact fun _=>?x
theorem aa8:aj cfg f71=h aa9:=by kernel_rfl
def V7:bt:=by refine (?f:_->_) (by conv=>lhs;cbv:aj cfgS f74=h ?x);exact fun _=>?x
theorem aaO:aj cfg f74=h V7:=by kernel_rfl
def RX:bt:=by refine (?f:_->_) (by conv=>lhs;cbv:aj cfgS f77=h ?x);exact fun _=>?x
theorem aci:aj cfg f77=h RX:=by kernel_rfl
def abw:bt:=by refine (?f:_->_) (by conv=>lhs;cbv:aj cfgS f81=h ?x);exact fun _=>?x
theorem abv:aj cfg f81=h abw:=by kernel_rfl
def abi:bt:=by refine (?f:_->_) (by conv=>lhs;cbv:aj cfgS f84=h ?x);exact fun _=>?x
theorem abh:aj cfg f84=h abi:=by kernel_rfl
def TL:bt:=by refine (?f:_->_) (by conv=>lhs;cbv:aj cfgS f87=h ?x);exact fun _=>?x
theorem Yg:aj cfg f87=h TL:=by kernel_rfl
def Yj:bt:=by refine (?f:_->_) (by conv=>lhs;cbv:aj cfgS f90=h ?x);exact fun _=>?x
theorem Yi:aj cfg f90=h Yj:=by kernel_rfl
def Yu:bt:=by refine (?f:_->_) (by conv=>lhs;cbv:aj cfgS f94=h ?x);exact fun _=>?x
theorem Yt:aj cfg f94=h Yu:=by kernel_rfl
def PW:bt:=by refine (?f:_->_) (by conv=>lhs;cbv:aj cfgS f97=h ?x);exact fun _=>?x
theorem Yx:aj cfg f97=h PW:=by kernel_rfl
def Ty:bt:=by refine (?f:_->_) (by conv=>lhs;cbv:aj cfgS f100=h ?x);exact fun _=>?x
theorem WH:aj cfg f100=h Ty:=by kernel_rfl
def D2:bt:=by refine (?f:_->_) (by conv=>lhs;cbv:aj cfgS f103=h ?x);exact fun _=>?x
theorem Ug:aj cfg f103=h D2:=by kernel_rfl
def TC:bt:=by refine (?f:_->_) (by conv=>lhs;cbv:aj cfgS f108=h ?x);exact fun _=>?x
theorem WO:aj cfg f108=h TC:=by kernel_rfl
def Tx:bt:=by refine (?f:_->_) (by conv=>lhs;cbv:aj cfgS f111=h ?x);exact fun _=>?x
theorem WG:aj cfg f111=h Tx:=by kernel_rfl
def S6:bt:=by refine (?f:_->_) (by conv=>lhs;cbv:aj cfgS f116=h ?x);exact fun _=>?x
theorem VC:aj cfg f116=h S6:=by kernel_rfl
def Gr:bt:=by refine (?f:_->_) (by conv=>lhs;cbv:aj cfgS f119=h ?x);exact fun _=>?x
theorem Ws:aj cfg f119=h Gr:=by kernel_rfl
def Tm:bt:=by refine (?f:_->_) (by conv=>lhs;cbv:aj cfgS f122=h ?x);exact fun _=>?x
theorem Wl:aj cfg f122=h Tm:=by kernel_rfl
def Gt:bt:=by refine (?f:_->_) (by conv=>lhs;cbv:aj cfgS f125=h ?x);exact fun _=>?x
theorem Wx:aj cfg f125=h Gt:=by kernel_rfl
def BQ:bt:=by refine (?f:_->_) (by conv=>lhs;cbv:aj cfgS f128=h ?x);exact fun _=>?x
theorem Wt:aj cfg f128=h BQ:=by kernel_rfl
def O1:bt:=by refine (?f:_->_) (by conv=>lhs;cbv:aj cfgS f131=h ?x);exact fun _=>?x
theorem Wz:aj cfg f131=h O1:=by kernel_rfl
def D3:bt:=by refine (?f:_->_) (by conv=>lhs;cbv:aj cfgS f134=h ?x);exact fun _=>?x
theorem Uj:aj cfg f134=h D3:=by kernel_rfl
def Tt:bt:=by refine (?f:_->_) (by conv=>lhs;cbv:aj cfgS f137=h ?x);exact fun _=>?x
theorem WB:aj cfg f137=h Tt:=by kernel_rfl
def IW:bt:=by refine (?f:_->_) (by conv=>lhs;cbv:aj cfgS f140=h ?x);exact fun _=>?x
theorem TH:aj cfg f140=h IW:=by kernel_rfl
def xC:bt:=by refine (?f:_->_) (by conv=>lhs;cbv:aj cfgS f146=h ?x);exact fun _=>?x
theorem T4:aj cfg f146=h xC:=by kernel_rfl
def Mn:bt:=by refine (?f:_->_) (by conv=>lhs;cbv:aj cfgS f149=h ?x);exact fun _=>?x
theorem Ml:aj cfg f149=h Mn:=by kernel_rfl
def Td:bt:=by refine (?f:_->_) (by conv=>lhs;cbv:aj cfgS f152=h ?x);exact fun _=>?x
theorem VI:aj cfg f152=h Td:=by kernel_rfl
def DW:bt:=by refine (?f:_->_) (by conv=>lhs;cbv:aj cfgS f165=h ?x);exact fun _=>?x
theorem TZ:aj cfg f165=h DW:=by kernel_rfl
def OS:bt:=by refine (?f:_->_) (by conv=>lhs;cbv:aj cfgS f169=h ?x);exact fun _=>?x
theorem Wk:aj cfg f169=h OS:=by kernel_rfl
def OZ:bt:=by refine (?f:_->_) (by conv=>lhs;cbv:aj cfgS f172=h ?x);exact fun _=>?x
theorem Wv:aj cfg f172=h OZ:=by kernel_rfl
def S7:bt:=by refine (?f:_->_) (by conv=>lhs;cbv:aj cfgS f175=h ?x);exact fun _=>?x
theorem VD:aj cfg f175=h S7:=by kernel_rfl
def S1:bt:=by refine (?f:_->_) (by conv=>lhs;cbv:aj cfgS f178=h ?x);exact fun _=>?x
theorem Vw:aj cfg f178=h S1:=by kernel_rfl
def wz:bt:=by refine (?f:_->_) (by conv=>lhs;cbv:aj cfgS f182=h ?x);exact fun _=>?x
theorem VA:aj cfg f182=h wz:=by kernel_rfl
def Mj:bt:=by refine (?f:_->_) (by conv=>lhs;cbv:aj cfgS f187=h ?x);exact fun _=>?x
theorem TP:aj cfg f187=h Mj:=by kernel_rfl
def Sg:bt:=by refine (?f:_->_) (by conv=>lhs;cbv:aj cfgS f195=h ?x);exact fun _=>?x
theorem TW:aj cfg f195=h Sg:=by kernel_rfl
def N6:bt:=by refine (?f:_->_) (by conv=>lhs;cbv:aj cfgS f207=h ?x);exact fun _=>?x
theorem Vt:aj cfg f207=h N6:=by kernel_rfl
def N4:bt:=by refine (?f:_->_) (by conv=>lhs;cbv:aj cfgS f210=h ?x);exact fun _=>?x
theorem Vr:aj cfg f210=h N4:=by kernel_rfl
def Sj:bt:=by refine (?f:_->_) (by conv=>lhs;cbv:aj cfgS f225=h ?x);exact fun _=>?x
theorem TY:aj cfg f225=h Sj:=by kernel_rfl
def ir4:bt:=by refine (?f:_->_) (by conv=>lhs;cbv:aj cfgS f4=h ?x);exact fun _=>?x
theorem aea:aj cfg f4=h ir4:=by kernel_rfl
def V0:bt:=by refine (?f:_->_->_->_->_->_->_->_->_) (by conv=>lhs;cbv:(f10.body.map fun a=>lE cfgS f10 a)=h ?k) (by conv=>lhs;cbv:(f10.body.map fun c=>(iy f10 ?k 0 3 c 0).1)=h ?p0) (by conv=>lhs;cbv:(f10.body.map fun c=>(iy f10 ?k 3 6 c 0).1)=h ?p1) (by conv=>lhs;cbv:(f10.body.map fun c=>(iy f10 ?k 6 10 c 0).1)=h ?p2) (by conv=>lhs;cbv:(f10.body.map fun c=>(iy f10 ?k 10 20 c 0).1)=h ?p3) (by conv=>lhs;cbv:(f10.body.map fun c=>(iy f10 ?k 20 30 c 0).1)=h ?p4) (by conv=>lhs;cbv:(f10.body.map fun c=>(iy f10 ?k 30 1000 c 0).1)=h ?p5) (by conv=>lhs;cbv:R9 f10 ?k (k8 (k8 (k8 (k8 (k8 ?p0 ?p1) ?p2) ?p3) ?p4) ?p5)=h ?x);exact fun _ _ _ _ _ _ _ _=>?x
theorem aaF:aj cfg f10=h V0:=by kernel_rfl
def WU:bt:=by refine (?f:_->_) (by conv=>lhs;cbv:aj cfgS f13=h ?x);exact fun _=>?x
theorem TD:aj cfg f13=h WU:=by kernel_rfl
def RB:bt:=by refine (?f:_->_) (by conv=>lhs;cbv:aj cfgS f16=h ?x);exact fun _=>?x
theorem OJ:aj cfg f16=h RB:=by kernel_rfl
def acu:bt:=by refine (?f:_->_) (by conv=>lhs;cbv:aj cfgS f19=h ?x);exact fun _=>?x
theorem acs:aj cfg f19=h acu:=by kernel_rfl
def Mw:bt:=by refine (?f:_->_) (by conv=>lhs;cbv:aj cfgS f22=h ?x);exact fun _=>?x
theorem YU:aj cfg f22=h Mw:=by kernel_rfl
def Ru:bt:=by refine (?f:_->_) (by conv=>lhs;cbv:aj cfgS f34=h ?x);exact fun _=>?x
theorem Ot:aj cfg f34=h Ru:=by kernel_rfl
def acL:bt:=by refine (?f:_->_) (by conv=>lhs;cbv:aj cfgS f37=h ?x);exact fun _=>?x
theorem acK:aj cfg f37=h acL:=by kernel_rfl
def aaH:bt:=by refine (?f:_->_) (by conv=>lhs;cbv:aj cfgS f40=h ?x);exact fun _=>?x
theorem aaG:aj cfg f40=h aaH:=by kernel_rfl
def R1:bt:=by refine (?f:_->_) (by conv=>lhs;cbv:aj cfgS f43=h ?x);exact fun _=>?x
theorem acr:aj cfg f43=h R1:=by kernel_rfl
def PV:bt:=by refine (?f:_->_) (by conv=>lhs;cbv:aj cfgS f46=h ?x);exact fun _=>?x
theorem Ys:aj cfg f46=h PV:=by kernel_rfl
def TV:bt:=by refine (?f:_->_) (by conv=>lhs;cbv:aj cfgS f49=h ?x);exact fun _=>?x
theorem Yy:aj cfg f49=h TV:=by kernel_rfl
def T7:bt:=by refine (?f:_->_) (by conv=>lhs;cbv:aj cfgS f52=h ?x);exact fun _=>?x
theorem YM:aj cfg f52=h T7:=by kernel_rfl
def Ls:bt:=by refine (?f:_->_) (by conv=>lhs;cbv:aj cfgS f55=h ?x);exact fun _=>?x
theorem aaf:aj cfg f55=h Ls:=by kernel_rfl
def PQ:bt:=by refine (?f:_->_) (by conv=>lhs;cbv:aj cfgS f60=h ?x);exact fun _=>?x
theorem X7:aj cfg f60=h PQ:=by kernel_rfl
def Wb:bt:=by refine (?f:_->_) (by conv=>lhs;cbv:aj cfgS f63=h ?x);exact fun _=>?x
theorem aaR:aj cfg f63=h Wb:=by kernel_rfl
def aah:bt:=by refine (?f:_->_->_) (by conv=>lhs;cbv:(f66.body.map fun a=>lE cfgS f66 a)=h ?k) (by conv=>lhs;cbv:tB cfgS ?k f66=h ?x);exact fun _ _=>?x
theorem aag:aj cfg f66=h aah:=by kernel_rfl
def aa5:bt:=by refine (?f:_->_) (by conv=>lhs;cbv:aj cfgS f69=h ?x);exact fun _=>?x
theorem aa4:aj cfg f69=h aa5:=by kernel_rfl
def WA:bt:=by refine (?f:_->_->_->_->_->_->_->_->_) (by conv=>lhs;cbv:(f72.body.map fun a=>lE cfgS f72 a)=h ?k) (by conv=>lhs;cbv:(f72.body.map fun c=>(iy f72 ?k 0 6 c 0).1)=h ?p0) (by conv=>lhs;cbv:(f72.body.map fun c=>(iy f72 ?k 6 12 c 0).1)=h ?p1) (by conv=>lhs;cbv:(f72.body.map fun c=>(iy f72 ?k 12 18 c 0).1)=h ?p2) (by conv=>lhs;cbv:(f72.body.map fun c=>(iy f72 ?k 18 24 c 0).1)=h ?p3) (by conv=>lhs;cbv:(f72.body.map fun c=>(iy f72 ?k 24 30 c 0).1)=h ?p4) (by conv=>lhs;cbv:(f72.body.map fun c=>(iy f72 ?k 30 1000 c 0).1)=h ?p5) (by conv=>lhs;cbv:R9 f72 ?k (k8 (k8 (k8 (k8 (k8 ?p0 ?p1) ?p2) ?p3) ?p4) ?p5)=h ?x);exact fun _ _ _ _ _ _ _ _=>?x
theorem abr:aj cfg f72=h WA:=by kernel_rfl
def Gx:bt:=by refine (?f:_->_) (by conv=>lhs;cbv:aj cfgS f75=h ?x);exact fun _=>?x
theorem abz:aj cfg f75=h Gx:=by kernel_rfl
def acq:bt:=by refine (?f:_->_) (by conv=>lhs;cbv:aj cfgS f79=h ?x);exact fun _=>?x
theorem acp:aj cfg f79=h acq:=by kernel_rfl
def O8:bt:=by refine (?f:_->_->_) (by conv=>lhs;cbv:(f82.body.map fun a=>lE cfgS f82 a)=h ?k) (by conv=>lhs;cbv:tB cfgS ?k f82=h ?x);exact fun _ _=>?x
theorem abG:aj cfg f82=h O8:=by kernel_rfl
def abE:bt:=by refine (?f:_->_) (by conv=>lhs;cbv:aj cfgS f85=h ?x);exact fun _=>?x
theorem abD:aj cfg f85=h abE:=by kernel_rfl
def TU:bt:=by refine (?f:_->_) (by conv=>lhs;cbv:aj cfgS f88=h ?x);exact fun _=>?x
theorem Yr:aj cfg f88=h TU:=by kernel_rfl
def Yl:bt:=by refine (?f:_->_) (by conv=>lhs;cbv:aj cfgS f91=h ?x);exact fun _=>?x
theorem Yk:aj cfg f91=h Yl:=by kernel_rfl
def YH:bt:=by refine (?f:_->_) (by conv=>lhs;cbv:aj cfgS f95=h ?x);exact fun _=>?x
theorem YG:aj cfg f95=h YH:=by kernel_rfl
def Yw:bt:=by refine (?f:_->_) (by conv=>lhs;cbv:aj cfgS f98=h ?x);exact fun _=>?x
theorem Yv:aj cfg f98=h Yw:=by kernel_rfl
def Mv:bt:=by refine (?f:_->_) (by conv=>lhs;cbv:aj cfgS f101=h ?x);exact fun _=>?x
theorem Uc:aj cfg f101=h Mv:=by kernel_rfl
def MA:bt:=by refine (?f:_->_) (by conv=>lhs;cbv:aj cfgS f104=h ?x);exact fun _=>?x
theorem Uf:aj cfg f104=h MA:=by kernel_rfl
def Tj:bt:=by refine (?f:_->_) (by conv=>lhs;cbv:aj cfgS f109=h ?x);exact fun _=>?x
theorem Wa:aj cfg f109=h Tj:=by kernel_rfl
def I3:bt:=by refine (?f:_->_) (by conv=>lhs;cbv:aj cfgS f112=h ?x);exact fun _=>?x
theorem G2:aj cfg f112=h I3:=by kernel_rfl
def J4:bt:=by refine (?f:_->_) (by conv=>lhs;cbv:aj cfgS f117=h ?x);exact fun _=>?x
theorem Wi:aj cfg f117=h J4:=by kernel_rfl
def OY:bt:=by refine (?f:_->_) (by conv=>lhs;cbv:aj cfgS f120=h ?x);exact fun _=>?x
theorem OX:aj cfg f120=h OY:=by kernel_rfl
def Tp:bt:=by refine (?f:_->_) (by conv=>lhs;cbv:aj cfgS f123=h ?x);exact fun _=>?x
theorem Wo:aj cfg f123=h Tp:=by kernel_rfl
def J8:bt:=by refine (?f:_->_) (by conv=>lhs;cbv:aj cfgS f126=h ?x);exact fun _=>?x
theorem ID:aj cfg f126=h J8:=by kernel_rfl
def O5:bt:=by refine (?f:_->_) (by conv=>lhs;cbv:aj cfgS f129=h ?x);exact fun _=>?x
theorem WC:aj cfg f129=h O5:=by kernel_rfl
def JO:bt:=by refine (?f:_->_) (by conv=>lhs;cbv:aj cfgS f132=h ?x);exact fun _=>?x
theorem Oa:aj cfg f132=h JO:=by kernel_rfl
def Ta:bt:=by refine (?f:_->_) (by conv=>lhs;cbv:aj cfgS f135=h ?x);exact fun _=>?x
theorem VF:aj cfg f135=h Ta:=by kernel_rfl
def J9:bt:=by refine (?f:_->_) (by conv=>lhs;cbv:aj cfgS f138=h ?x);exact fun _=>?x
theorem O4:aj cfg f138=h J9:=by kernel_rfl
def Mg:bt:=by refine (?f:_->_) (by conv=>lhs;cbv:aj cfgS f141=h ?x);exact fun _=>?x
theorem TM:aj cfg f141=h Mg:=by kernel_rfl
def Sc:bt:=by refine (?f:_->_) (by conv=>lhs;cbv:aj cfgS f147=h ?x);exact fun _=>?x
theorem TQ:aj cfg f147=h Sc:=by kernel_rfl
def Mu:bt:=by refine (?f:_->_) (by conv=>lhs;cbv:aj cfgS f150=h ?x);exact fun _=>?x
theorem Ub:aj cfg f150=h Mu:=by kernel_rfl
def Mx:bt:=by refine (?f:_->_) (by conv=>lhs;cbv:aj cfgS f153=h ?x);exact fun _=>?x
theorem Ud:aj cfg f153=h Mx:=by kernel_rfl
def ON:bt:=by refine (?f:_->_) (by conv=>lhs;cbv:aj cfgS f167=h ?x);exact fun _=>?x
theorem Wg:aj cfg f167=h ON:=by kernel_rfl
def Tn:bt:=by refine (?f:_->_) (by conv=>lhs;cbv:aj cfgS f170=h ?x);exact fun _=>?x
theorem Wm:aj cfg f170=h Tn:=by kernel_rfl
def Te:bt:=by refine (?f:_->_) (by conv=>lhs;cbv:aj cfgS f173=h ?x);exact fun _=>?x
theorem VK:aj cfg f173=h Te:=by kernel_rfl
def SZ:bt:=by refine (?f:_->_) (by conv=>lhs;cbv:aj cfgS f176=h ?x);exact fun _=>?x
theorem Vu:aj cfg f176=h SZ:=by kernel_rfl
def N5:bt:=by refine (?f:_->_) (by conv=>lhs;cbv:aj cfgS f179=h ?x);exact fun _=>?x
theorem Vs:aj cfg f179=h N5:=by kernel_rfl
def Tg:bt:=by refine (?f:_->_->_->_->_->_->_->_->_) (by conv=>lhs;cbv:(f183.body.map fun a=>lE cfgS f183 a)=h ?k) (by conv=>lhs;cbv:(f183.body.map fun c=>(iy f183 ?k 0 6 c 0).1)=h ?p0) (by conv=>lhs;cbv:(f183.body.map fun c=>(iy f183 ?k 6 12 c 0).1)=h ?p1) (by conv=>lhs;cbv:(f183.body.map fun c=>(iy f183 ?k 12 18 c 0).1)=h ?p2) (by conv=>lhs;cbv:(f183.body.map fun c=>(iy f183 ?k 18 24 c 0).1)=h ?p3) (by conv=>lhs;cbv:(f183.body.map fun c=>(iy f183 ?k 24 30 c 0).1)=h ?p4) (by conv=>lhs;cbv:(f183.body.map fun c=>(iy f183 ?k 30 1000 c 0).1)=h ?p5) (by conv=>lhs;cbv:R9 f183 ?k (k8 (k8 (k8 (k8 (k8 ?p0 ?p1) ?p2) ?p3) ?p4) ?p5)=h ?x);exact fun _ _ _ _ _ _ _ _=>?x
theorem VS:aj cfg f183=h Tg:=by kernel_rfl
def Sp:bt:=by refine (?f:_->_) (by conv=>lhs;cbv:aj cfgS f188=h ?x);exact fun _=>?x
theorem Uh:aj cfg f188=h Sp:=by kernel_rfl
def Ms:bt:=by refine (?f:_->_->_->_->_->_->_->_) (by conv=>lhs;cbv:(f196.body.map fun a=>lE cfgS f196 a)=h ?k) (by conv=>lhs;cbv:(f196.body.map fun c=>(iy f196 ?k 0 15 c 0).1)=h ?p0) (by conv=>lhs;cbv:(f196.body.map fun c=>(iy f196 ?k 15 30 c 0).1)=h ?p1) (by conv=>lhs;cbv:(f196.body.map fun c=>(iy f196 ?k 30 45 c 0).1)=h ?p2) (by conv=>lhs;cbv:(f196.body.map fun c=>(iy f196 ?k 45 60 c 0).1)=h ?p3) (by conv=>lhs;cbv:(f196.body.map fun c=>(iy f196 ?k 60 1000 c 0).1)=h ?p4) (by conv=>lhs;cbv:R9 f196 ?k (k8 (k8 (k8 (k8 ?p0 ?p1) ?p2) ?p3) ?p4)=h ?x);exact fun _ _ _ _ _ _ _=>?x
theorem Mr:aj cfg f196=h Ms:=by kernel_rfl
def S4:bt:=by refine (?f:_->_) (by conv=>lhs;cbv:aj cfgS f208=h ?x);exact fun _=>?x
theorem Vx:aj cfg f208=h S4:=by kernel_rfl
def pW:bt:=by refine (?f:_->_) (by conv=>lhs;cbv:aj cfgS f213=h ?x);exact fun _=>?x
theorem VP:aj cfg f213=h pW:=by kernel_rfl
def JP:bt:=by refine (?f:_->_) (by conv=>lhs;cbv:aj cfgS f236=h ?x);exact fun _=>?x
theorem VL:aj cfg f236=h JP:=by kernel_rfl
def WM:bt:=by refine (?f:_->_) (by conv=>lhs;cbv:aj cfgS f11=h ?x);exact fun _=>?x
theorem TB:aj cfg f11=h WM:=by kernel_rfl
def Pn:bt:=by refine (?f:_->_->_) (by conv=>lhs;cbv:(f14.body.map fun a=>lE cfgS f14 a)=h ?k) (by conv=>lhs;cbv:tB cfgS ?k f14=h ?x);exact fun _ _=>?x
theorem acx:aj cfg f14=h Pn:=by kernel_rfl
def acw:bt:=by refine (?f:_->_) (by conv=>lhs;cbv:aj cfgS f17=h ?x);exact fun _=>?x
theorem acv:aj cfg f17=h acw:=by kernel_rfl
def aaU:bt:=by refine (?f:_->_) (by conv=>lhs;cbv:aj cfgS f20=h ?x);exact fun _=>?x
theorem aaT:aj cfg f20=h aaU:=by kernel_rfl
def acI:bt:=by refine (?f:_->_) (by conv=>lhs;cbv:aj cfgS f29=h ?x);exact fun _=>?x
theorem acH:aj cfg f29=h acI:=by kernel_rfl
def WL:bt:=by refine (?f:_->_->_->_->_->_->_->_) (by conv=>lhs;cbv:(f35.body.map fun a=>lE cfgS f35 a)=h ?k) (by conv=>lhs;cbv:(f35.body.map fun c=>(iy f35 ?k 0 10 c 0).1)=h ?p0) (by conv=>lhs;cbv:(f35.body.map fun c=>(iy f35 ?k 10 20 c 0).1)=h ?p1) (by conv=>lhs;cbv:(f35.body.map fun c=>(iy f35 ?k 20 30 c 0).1)=h ?p2) (by conv=>lhs;cbv:(f35.body.map fun c=>(iy f35 ?k 30 40 c 0).1)=h ?p3) (by conv=>lhs;cbv:(f35.body.map fun c=>(iy f35 ?k 40 1000 c 0).1)=h ?p4) (by conv=>lhs;cbv:R9 f35 ?k (k8 (k8 (k8 (k8 ?p0 ?p1) ?p2) ?p3) ?p4)=h ?x);exact fun _ _ _ _ _ _ _=>?x
theorem TA:aj cfg f35=h WL:=by kernel_rfl
def V6:bt:=by refine (?f:_->_) (by conv=>lhs;cbv:aj cfgS f38=h ?x);exact fun _=>?x
theorem aaN:aj cfg f38=h V6:=by kernel_rfl
def acN:bt:=by refine (?f:_->_) (by conv=>lhs;cbv:aj cfgS f41=h ?x);exact fun _=>?x
theorem acM:aj cfg f41=h acN:=by kernel_rfl
def abI:bt:=by refine (?f:_->_->_->_->_->_->_->_) (by conv=>lhs;cbv:(f44.body.map fun a=>lE cfgS f44 a)=h ?k) (by conv=>lhs;cbv:(f44.body.map fun c=>(iy f44 ?k 0 8 c 0).1)=h ?p0) (by conv=>lhs;cbv:(f44.body.map fun c=>(iy f44 ?k 8 16 c 0).1)=h ?p1) (by conv=>lhs;cbv:(f44.body.map fun c=>(iy f44 ?k 16 24 c 0).1)=h ?p2) (by conv=>lhs;cbv:(f44.body.map fun c=>(iy f44 ?k 24 32 c 0).1)=h ?p3) (by conv=>lhs;cbv:(f44.body.map fun c=>(iy f44 ?k 32 1000 c 0).1)=h ?p4) (by conv=>lhs;cbv:R9 f44 ?k (k8 (k8 (k8 (k8 ?p0 ?p1) ?p2) ?p3) ?p4)=h ?x);exact fun _ _ _ _ _ _ _=>?x
theorem abH:aj cfg f44=h abI:=by kernel_rfl
def TE:bt:=by refine (?f:_->_) (by conv=>lhs;cbv:aj cfgS f47=h ?x);exact fun _=>?x
theorem X3:aj cfg f47=h TE:=by kernel_rfl
def YO:bt:=by refine (?f:_->_) (by conv=>lhs;cbv:aj cfgS f50=h ?x);exact fun _=>?x
theorem YN:aj cfg f50=h YO:=by kernel_rfl
def acf:bt:=by refine (?f:_->_) (by conv=>lhs;cbv:aj cfgS f53=h ?x);exact fun _=>?x
theorem ace:aj cfg f53=h acf:=by kernel_rfl
def WQ:bt:=by refine (?f:_->_) (by conv=>lhs;cbv:aj cfgS f61=h ?x);exact fun _=>?x
theorem acA:aj cfg f61=h WQ:=by kernel_rfl
def X5:bt:=by refine (?f:_->_) (by conv=>lhs;cbv:aj cfgS f64=h ?x);exact fun _=>?x
theorem X4:aj cfg f64=h X5:=by kernel_rfl
def OU:bt:=by refine (?f:_->_) (by conv=>lhs;cbv:aj cfgS f67=h ?x);exact fun _=>?x
theorem abg:aj cfg f67=h OU:=by kernel_rfl
def aa7:bt:=by refine (?f:_->_) (by conv=>lhs;cbv:aj cfgS f70=h ?x);exact fun _=>?x
theorem aa6:aj cfg f70=h aa7:=by kernel_rfl
def abC:bt:=by refine (?f:_->_->_->_->_->_->_->_) (by conv=>lhs;cbv:(f73.body.map fun a=>lE cfgS f73 a)=h ?k) (by conv=>lhs;cbv:(f73.body.map fun c=>(iy f73 ?k 0 6 c 0).1)=h ?p0) (by conv=>lhs;cbv:(f73.body.map fun c=>(iy f73 ?k 6 12 c 0).1)=h ?p1) (by conv=>lhs;cbv:(f73.body.map fun c=>(iy f73 ?k 12 18 c 0).1)=h ?p2) (by conv=>lhs;cbv:(f73.body.map fun c=>(iy f73 ?k 18 24 c 0).1)=h ?p3) (by conv=>lhs;cbv:(f73.body.map fun c=>(iy f73 ?k 24 1000 c 0).1)=h ?p4) (by conv=>lhs;cbv:R9 f73 ?k (k8 (k8 (k8 (k8 ?p0 ?p1) ?p2) ?p3) ?p4)=h ?x);exact fun _ _ _ _ _ _ _=>?x
theorem abB:aj cfg f73=h abC:=by kernel_rfl
def Oe:bt:=(.mk [0,1,4,5,6,7,8,9,10,11,12,13,15,16,18,19,20,36,38,39,42,43,46,49,55,56,59,63,64,66,72,78,79,80,83,85,90,91,92,95,96,97,98,100,104,105,106,114,116,117,118,124,125] (.seq (.seq (.jC 1 [] [.f 0 2 (.alloc 58) [],.par [(3,.ci 0)]]) (.own [.mk 2 (h 2) 129 3])) (.seq (.seq (.jC 0 [] [.par [(14,.len 55 (.v 1)),(15,.ci 0)]]) (.block 0 (.loop [3,4,5,6,7,8,9,10,11,12,13,16,18,19,20,21,22,23,24,25,26,27,28,29,30,31,32,33,34,35,36,37,38,39,40,41,42,43,44,45,46,47,48,49,50,51,52] (.seq (.rp 16 (.bin .lss 3 (.v 15) (.v 14))) (.seq (.cond 16 .skip (.exit 0)) (.seq (.block 1 (.seq (.rp 4 (.v 15)) (.seq (.jC 0 [] [.gJ w 0 (h 17) (h (.bin .gtr 3 (.v 4) (.ci 0),B)) (.cl 116 #[.t 30,.t 35] #[78,78]) [(30,.load 78 (.faddr 99 (.iaddr 55 (.v 1) (.bin .sub 3 (.v 4) (.ci 1))) 0)),(35,.load 78 (.faddr 99 (.iaddr 55 (.v 1) (.v 4)) 0))],.par [(18,.and (.bin .gtr 3 (.v 4) (.ci 0)) (.bin .geq 3 (.v 17) (.ci 0)))]]) (.cond 18 (.seq (.jC 0 [] [.f 0 19 (.build 58 #[]) [],.gJ w 0 w w (.store 58 (.t 4) (.t 39)) [(4,.v 2),(39,.v 19)],.par [(3,.ci 5)]]) .ret) .skip)))) (.rp 15 (.bin .add 3 (.v 15) (.ci 1))))))))) (.seq (.seq (.jC 1 [] [.f 0 20 (.build 166 #[(0,.t 41)]) [(41,.v 1)],.f 0 21 (.box 166 (.t 42)) [(42,.v 20)],.par [(5,.v 21)]]) (.own [.mk 21 (h 0) 99 3])) (.seq (.jC 0 [] [.f 0 22 (.cl 132 #[.t 44,.const (.int .i64 1),.t 45] #[164,3,3]) [(44,.v 5),(45,.v 0)],.f 0 23 (.cl 132 #[.t 47,.const (.int .i64 2),.t 48] #[164,3,3]) [(47,.v 5),(48,.v 0)],.par [(6,.v 22),(7,.v 23)]]) (.seq (.seq (.rp 24 (.or (.bin .eql 9 (.v 6) (.cst (.str []))) (.bin .eql 9 (.v 7) (.cst (.str []))))) (.cond 24 (.seq (.jC 0 [] [.f 0 25 (.build 58 #[]) [],.gJ w 0 w w (.store 58 (.t 4) (.t 56)) [(4,.v 2),(56,.v 25)],.par [(3,.ci 7)]]) .ret) .skip)) (.seq (.jC 1 [] [.f 0 26 (.cl 133 #[.t 58] #[9]) [(58,.v 7)],.f 0 8 (.alloc 74) [],.gJ w 1 w w (.store 74 (.t 10) (.t 60)) [(10,.v 8),(60,.extract (.v 26) 0)],.par [(9,.extract (.v 26) 1)]]) (.seq (.seq (.rp 27 (.un .not (.v 9))) (.cond 27 (.seq (.jC 0 [] [.f 0 28 (.build 58 #[]) [],.gJ w 0 w w (.store 58 (.t 4) (.t 64)) [(4,.v 2),(64,.v 28)],.par [(3,.ci 3)]]) .ret) .skip)) (.seq (.jC 0 [] [.f 0 29 (.cl 93 #[.t 65,.const (.string (.mk #[46]))] #[9,9]) [(65,.v 6)],.par [(10,.v 29)]]) (.seq (.seq (.jC 2 [0,1] [.gJ (h [0,0,1]) 0 (h 30) w (.cl 134 #[.t 71] #[3]) [(71,.lf 3 74 8 2)],.gJ (h [0,0,1]) 0 (h 31) w (.build 129 #[(0,.t 69),(1,.t 72),(2,.t 77)]) [(69,.v 10),(72,.v 30),(77,.bin .add 9 (.bin .add 9 (.v 6) (.cst (.str [32]))) (.lf 9 74 8 4))],.gJ (h [0,0,1]) 0 (h 32) w (.buildSlice 56 1 #[(0,.t 78)]) [(78,.v 31)],.gJ (h [0,1]) 1 (h 33) w (.build 58 #[(0,.t 67),(1,.t 68),(2,.t 79)]) [(67,.v 0),(68,.v 6),(79,.v 32)],.gJ (h [0,0,1]) 1 (h 11) w (.alloc 58) [],.gJ w 2 w w (.store 58 (.t 13) (.t 80)) [(13,.v 11),(80,.v 33)]]) (.own [.mk 11 (h 2) 129 3])) (.seq (.seq (.rp 34 (.bin .neq 9 (.lf 9 74 8 3) (.cst (.str [])))) (.cond 34 (.jC 2 [] [.par [(35,.lf 56 58 11 2)],.f 0 36 (.build 129 #[(0,.t 87),(1,.const (.string (.mk #[109,97,114,107]))),(2,.t 89)]) [(87,.bin .add 3 (.v 10) (.ci 1)),(89,.lf 9 74 8 3)],.f 0 37 (.buildSlice 56 1 #[(0,.t 90)]) [(90,.v 36)],.f 1 38 (.call (.mk (.builtin .append) #[.t 85,.t 91] #[56,56])) [(85,.v 35),(91,.v 37)],.gJ w 2 w w (.store 56 (.t 93) (.t 92)) [(93,.faddr 58 (.v 11) 2),(92,.v 38)]]) .skip)) (.seq (.seq (.jC 0 [] [.par [(39,.lf 72 74 8 5),(40,.len 72 (.lf 72 74 8 5)),(41,.ci 0)]]) (.block 2 (.loop [0,1,3,4,6,7,8,9,12,13,14,15,16,17,18,19,20,21,22,23,24,25,26,27,28,29,30,31,32,33,34,35,36,37,38,42,43,44,45,46,47,48,49,50,51,52] (.seq (.rp 42 (.bin .lss 3 (.v 41) (.v 40))) (.seq (.cond 42 .skip (.exit 2)) (.seq (.block 3 (.seq (.jC 1 [] [.par [(43,.load 76 (.iaddr 72 (.v 39) (.v 41)))],.f 0 12 (.alloc 76) [],.gJ w 1 w w (.store 76 (.t 15) (.t 100)) [(15,.v 12),(100,.v 43)]]) (.seq (.jC 0 [] [.f 0 44 (.cl 132 #[.t 101,.const (.int .i64 3),.t 103] #[164,3,3]) [(101,.v 5),(103,.lf 3 76 12 0)],.par [(13,.v 44)]]) (.alt [(2,([0,1],[.par [(45,.faddr 58 (.v 11) 2),(46,.lf 56 58 11 2)],.f 0 47 (.cl 135 #[.t 111,.t 113] #[164,9]) [(111,.v 5),(113,.lf 9 76 12 2)],.f 0 48 (.build 129 #[(0,.t 108),(1,.const (.string (.mk #[112]))),(2,.t 115)]) [(108,.bin .add 3 (.v 10) (.ci 1)),(115,.bin .add 9 (.bin .add 9 (.v 13) (.cst (.str [58,32]))) (.v 47))],.f 0 49 (.buildSlice 56 1 #[(0,.t 116)]) [(116,.v 48)],.f 1 50 (.call (.mk (.builtin .append) #[.t 106,.t 117] #[56,56])) [(106,.v 46),(117,.v 49)],.gJ w 2 w w (.store 56 (.t 119) (.t 118)) [(119,.faddr 58 (.v 11) 2),(118,.v 50)]])),(2,([0,1],[.par [(45,.faddr 58 (.v 11) 2)],.f 0 47 (.cl 135 #[.t 111,.t 113] #[164,9]) [(111,.v 5),(113,.lf 9 76 12 2)],.par [(46,.load 56 (.v 45))],.gJ (h [0,0,1]) 0 (h 48) w (.build 129 #[(0,.t 108),(1,.const (.string (.mk #[112]))),(2,.t 115)]) [(108,.bin .add 3 (.v 10) (.ci 1)),(115,.bin .add 9 (.bin .add 9 (.v 13) (.cst (.str [58,32]))) (.v 47))],.gJ (h [0,0,1]) 0 (h 49) w (.buildSlice 56 1 #[(0,.t 116)]) [(116,.v 48)],.f 1 50 (.call (.mk (.builtin .append) #[.t 106,.t 117] #[56,56])) [(106,.v 46),(117,.v 49)],.gJ w 2 w w (.store 56 (.t 119) (.t 118)) [(119,.faddr 58 (.v 11) 2),(118,.v 50)]])),(2,([0,1],[.f 0 47 (.cl 135 #[.t 111,.t 113] #[164,9]) [(111,.v 5),(113,.lf 9 76 12 2)],.par [(45,.faddr 58 (.v 11) 2),(46,.lf 56 58 11 2)],.gJ (h [0,0,1]) 0 (h 48) w (.build 129 #[(0,.t 108),(1,.const (.string (.mk #[112]))),(2,.t 115)]) [(108,.bin .add 3 (.v 10) (.ci 1)),(115,.bin .add 9 (.bin .add 9 (.v 13) (.cst (.str [58,32]))) (.v 47))],.gJ (h [0,0,1]) 0 (h 49) w (.buildSlice 56 1 #[(0,.t 116)]) [(116,.v 48)],.f 1 50 (.call (.mk (.builtin .append) #[.t 106,.t 117] #[56,56])) [(106,.v 46),(117,.v 49)],.gJ w 2 w w (.store 56 (.t 119) (.t 118)) [(119,.faddr 58 (.v 11) 2),(118,.v 50)]]))])))) (.rp 41 (.bin .add 3 (.v 41) (.ci 1))))))))) (.seq (.seq (.rp 51 (.load 4 (.faddr 166 (.nilck (.v 5)) 1))) (.cond 51 (.seq (.jC 0 [] [.f 0 52 (.build 58 #[]) [],.gJ w 0 w w (.store 58 (.t 4) (.t 125)) [(4,.v 2),(125,.v 52)],.par [(3,.ci 7)]]) .ret) .skip)) (.seq (.jC 0 [] [.gJ w 0 w w (.store 58 (.t 4) (.t 126)) [(4,.v 2),(126,.load 58 (.v 11))],.par [(3,.ci 0)]]) .ret))))))))))))) [.cell 2 58,.v 3])
theorem Tb:aj cfg f76=h Oe:=by kernel_rfl
def RJ:bt:=by refine (?f:_->_) (by conv=>lhs;cbv:aj cfgS f80=h ?x);exact fun _=>?x
theorem abu:aj cfg f80=h RJ:=by kernel_rfl
def abk:bt:=by refine (?f:_->_) (by conv=>lhs;cbv:aj cfgS f83=h ?x);exact fun _=>?x
theorem abj:aj cfg f83=h abk:=by kernel_rfl
def PR:bt:=by refine (?f:_->_) (by conv=>lhs;cbv:aj cfgS f86=h ?x);exact fun _=>?x
theorem Yf:aj cfg f86=h PR:=by kernel_rfl
def X2:bt:=by refine (?f:_->_) (by conv=>lhs;cbv:aj cfgS f89=h ?x);exact fun _=>?x
theorem X1:aj cfg f89=h X2:=by kernel_rfl
def T6:bt:=by refine (?f:_->_) (by conv=>lhs;cbv:aj cfgS f93=h ?x);exact fun _=>?x
theorem Sl:aj cfg f93=h T6:=by kernel_rfl
def YK:bt:=by refine (?f:_->_) (by conv=>lhs;cbv:aj cfgS f96=h ?x);exact fun _=>?x
theorem YJ:aj cfg f96=h YK:=by kernel_rfl
def acd:bt:=by refine (?f:_->_) (by conv=>lhs;cbv:aj cfgS f99=h ?x);exact fun _=>?x
theorem acb:aj cfg f99=h acd:=by kernel_rfl
def N8:bt:=by refine (?f:_->_) (by conv=>lhs;cbv:aj cfgS f102=h ?x);exact fun _=>?x
theorem VB:aj cfg f102=h N8:=by kernel_rfl
def Sa:bt:=(.mk [0,2] (.seq (.rp 1 (.cst (.bool A))) (.seq (.rp 1 (.bin .neq 3 (.v 0) (.v 0))) .ret)) [.v 1])
theorem TF:aj cfg f107=h Sa:=by kernel_rfl
def Tz:bt:=by refine (?f:_->_) (by conv=>lhs;cbv:aj cfgS f110=h ?x);exact fun _=>?x
theorem WI:aj cfg f110=h Tz:=by kernel_rfl
def vA:bt:=by refine (?f:_->_) (by conv=>lhs;cbv:aj cfgS f113=h ?x);exact fun _=>?x
theorem T5:aj cfg f113=h vA:=by kernel_rfl
def OQ:bt:=by refine (?f:_->_->_->_->_->_->_->_) (by conv=>lhs;cbv:(f118.body.map fun a=>lE cfgS f118 a)=h ?k) (by conv=>lhs;cbv:(f118.body.map fun c=>(iy f118 ?k 0 6 c 0).1)=h ?p0) (by conv=>lhs;cbv:(f118.body.map fun c=>(iy f118 ?k 6 12 c 0).1)=h ?p1) (by conv=>lhs;cbv:(f118.body.map fun c=>(iy f118 ?k 12 18 c 0).1)=h ?p2) (by conv=>lhs;cbv:(f118.body.map fun c=>(iy f118 ?k 18 24 c 0).1)=h ?p3) (by conv=>lhs;cbv:(f118.body.map fun c=>(iy f118 ?k 24 1000 c 0).1)=h ?p4) (by conv=>lhs;cbv:R9 f118 ?k (k8 (k8 (k8 (k8 ?p0 ?p1) ?p2) ?p3) ?p4)=h ?x);exact fun _ _ _ _ _ _ _=>?x
theorem Wj:aj cfg f118=h OQ:=by kernel_rfl
def To:bt:=by refine (?f:_->_) (by conv=>lhs;cbv:aj cfgS f121=h ?x);exact fun _=>?x
theorem Wn:aj cfg f121=h To:=by kernel_rfl
def Tq:bt:=by refine (?f:_->_) (by conv=>lhs;cbv:aj cfgS f124=h ?x);exact fun _=>?x
theorem Wu:aj cfg f124=h Tq:=by kernel_rfl
def Tv:bt:=by refine (?f:_->_) (by conv=>lhs;cbv:aj cfgS f127=h ?x);exact fun _=>?x
theorem WD:aj cfg f127=h Tv:=by kernel_rfl
def Gv:bt:=by refine (?f:_->_) (by conv=>lhs;cbv:aj cfgS f130=h ?x);exact fun _=>?x
theorem Wy:aj cfg f130=h Gv:=by kernel_rfl
def oI:bt:=by refine (?f:_->_->_->_->_->_->_->_) (by conv=>lhs;cbv:(f133.body.map fun a=>lE cfgS f133 a)=h ?k) (by conv=>lhs;cbv:(f133.body.map fun c=>(iy f133 ?k 0 10 c 0).1)=h ?p0) (by conv=>lhs;cbv:(f133.body.map fun c=>(iy f133 ?k 10 20 c 0).1)=h ?p1) (by conv=>lhs;cbv:(f133.body.map fun c=>(iy f133 ?k 20 30 c 0).1)=h ?p2) (by conv=>lhs;cbv:(f133.body.map fun c=>(iy f133 ?k 30 40 c 0).1)=h ?p3) (by conv=>lhs;cbv:(f133.body.map fun c=>(iy f133 ?k 40 1000 c 0).1)=h ?p4) (by conv=>lhs;cbv:R9 f133 ?k (k8 (k8 (k8 (k8 ?p0 ?p1) ?p2) ?p3) ?p4)=h ?x);exact fun _ _ _ _ _ _ _=>?x
theorem pU:aj cfg f133=h oI:=by kernel_rfl
def Ph:bt:=by refine (?f:_->_) (by conv=>lhs;cbv:aj cfgS f136=h ?x);exact fun _=>?x
theorem WK:aj cfg f136=h Ph:=by kernel_rfl
def Md:bt:=by refine (?f:_->_) (by conv=>lhs;cbv:aj cfgS f139=h ?x);exact fun _=>?x
theorem TK:aj cfg f139=h Md:=by kernel_rfl
def SY:bt:=by refine (?f:_->_) (by conv=>lhs;cbv:aj cfgS f145=h ?x);exact fun _=>?x
theorem Vq:aj cfg f145=h SY:=by kernel_rfl
def Sd:bt:=by refine (?f:_->_) (by conv=>lhs;cbv:aj cfgS f148=h ?x);exact fun _=>?x
theorem TR:aj cfg f148=h Sd:=by kernel_rfl
def Sq:bt:=by refine (?f:_->_) (by conv=>lhs;cbv:aj cfgS f151=h ?x);exact fun _=>?x
theorem Ui:aj cfg f151=h Sq:=by kernel_rfl
def Si:bt:=by refine (?f:_->_) (by conv=>lhs;cbv:aj cfgS f164=h ?x);exact fun _=>?x
theorem TX:aj cfg f164=h Si:=by kernel_rfl
def J3:bt:=by refine (?f:_->_) (by conv=>lhs;cbv:aj cfgS f168=h ?x);exact fun _=>?x
theorem Wh:aj cfg f168=h J3:=by kernel_rfl
def J6:bt:=by refine (?f:_->_) (by conv=>lhs;cbv:aj cfgS f171=h ?x);exact fun _=>?x
theorem Wq:aj cfg f171=h J6:=by kernel_rfl
def S8:bt:=by refine (?f:_->_) (by conv=>lhs;cbv:aj cfgS f174=h ?x);exact fun _=>?x
theorem VE:aj cfg f174=h S8:=by kernel_rfl
def S5:bt:=by refine (?f:_->_) (by conv=>lhs;cbv:aj cfgS f177=h ?x);exact fun _=>?x
theorem Vy:aj cfg f177=h S5:=by kernel_rfl
def Tf:bt:=by refine (?f:_->_) (by conv=>lhs;cbv:aj cfgS f181=h ?x);exact fun _=>?x
theorem VQ:aj cfg f181=h Tf:=by kernel_rfl
def Sb:bt:=(.mk [0,2] (.seq (.rp 1 (.cst (.bool A))) (.seq (.rp 1 (.bin .neq 9 (.v 0) (.v 0))) .ret)) [.v 1])
theorem TG:aj cfg f184=h Sb:=by kernel_rfl
def BE:bt:=by refine (?f:_->_) (by conv=>lhs;cbv:aj cfgS f189=h ?x);exact fun _=>?x
theorem VH:aj cfg f189=h BE:=by kernel_rfl
def Oh:bt:=by refine (?f:_->_) (by conv=>lhs;cbv:aj cfgS f206=h ?x);exact fun _=>?x
theorem VJ:aj cfg f206=h Oh:=by kernel_rfl
def S0:bt:=by refine (?f:_->_) (by conv=>lhs;cbv:aj cfgS f209=h ?x);exact fun _=>?x
theorem Vv:aj cfg f209=h S0:=by kernel_rfl
def JQ:bt:=by refine (?f:_->_) (by conv=>lhs;cbv:aj cfgS f214=h ?x);exact fun _=>?x
theorem VM:aj cfg f214=h JQ:=by kernel_rfl
