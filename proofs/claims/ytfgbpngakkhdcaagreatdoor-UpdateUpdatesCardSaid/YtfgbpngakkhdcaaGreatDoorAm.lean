/- The abstract machine: -/
import GoSem.Dispatch
import GoSem.Machine.Return
import Derived.Orders
import Derived.Calls
import Derived.Laws.Sem
import Derived.Laws.CopyRow
import Derived.Laws.Entries
import Derived.Laws.Tables
import Derived.Laws.StructEq
import Derived.Laws.Pointers
import Derived.ChangeKeysEq
import Derived.Laws.BytesString
import Derived.Laws.Strings2
import Derived.Laws.Cells
open Array renaming foldl_toList->Ν,getElem?_eq_none->Ε,getElem?_setIfInBounds_ne->ο,getElem?_toList->π
open Bool renaming false->O,true->L,and_eq_true->N,false_eq_true->ψ,not_eq_true'->Τ,or_eq_true->Ψ,true_eq_false->Λ
open Go renaming Addr->ώ,BinOp->Θ,FuncId->υ,IntKind->Β,Next->φ,Oper->ε,Operand->ρ,Program->γ,Result->ό,TypeDesc->ξ,TypeId->J,Value->I,World->Q,run_underlying->E
open List renaming length->É,all_eq_true->Υ,append_assoc->Δ,foldl_cons->Ω,getD_eq_getElem?_getD->X,getElem?_append_left->ω,getElem?_append_right->κ,getElem?_drop->Z,getElem?_eq_getElem->δ,getElem?_eq_none->V,getElem?_map->θ,getElem?_set->Γ,getElem?_take->η,length_nil->Η,map_cons->ϋ,mem_cons_of_mem->Ι,mem_cons_self->Μ,range->ϊ,replicate->χ,size_toArray->Ο
open Nat renaming add_assoc->σ,add_mul->ι,le_refl->W,le_trans->Ξ,lt_of_lt_of_le->ν,lt_or_ge->μ,mod_two_eq_zero_or_one->K,mul_le_mul_right->τ,sub_zero->ύ,zero_add->Ζ,zero_le->Χ
open Option renaming none->F,some->A,getD_some->Φ,map_some->T
open Option.some renaming injEq->H
open _root_ renaming Array->R,Bool->M,False->Κ,List->C,Nat->D,Option->B,True->Ϗ,UInt8->Α,absurd->ζ,if_false->Ρ,if_neg->U,if_pos->Y
set_option linter.all false
namespace Go.Am
inductive Ex where
 | normal | ret | exit (id:D)
structure Site where
 ps:R Tmp
 asg:Code
 body:Code
 keep:C D
 nt:D
 deriving Inhabited
def posOf (keep:C D) (i:D):B D:=
 match keep with
 | []=>F
 | j::r=>if i=j then A 0 else (posOf r i).map (· +1)
inductive AV where
 | any
 | jZ
 | int (k:Β) (n:Int)
 | bool (b:M)
 | str (s:C Α)
 | agg (cs:C AV)
 | aK (vs:C AV)
 | cn
 | ptr (k off:D)
 | cZ (k n i off:D)
 | dB (cs:C AV)
 | ah (nl:B M) (sz:D) (es:C AV)
 | cG (nl:B M)
 | aC (k n:D)
 | gO (k n lo hi:D)
 | fn (f:υ) (first caps:C AV)
 | er
 | il (nn:M)
 | mG (t:J) (k:Β) (n:Int)
 | gG (k:D) (s:Site) (env:C AV)
 | cg (k:D)
 | lU (k:D)
 | iv
 deriving Inhabited
inductive Uk where
 | ready | busy
 | done (e:Ex)
structure Hd where
 out:M
 ty:B J
 link:B (D×D×D×D)
 deriving Inhabited
inductive Y5 where
 | str (s:C Α) (pos:D)
 | map (m:D) (seen:C D) (clock:D)
 deriving Inhabited
inductive af where
 | dead
 | var (ty:J) (cs:C AV)
 | sl (sh:Hd) (sz:D) (es:C AV)
 | loop (st:Uk)
 | mp (es:C (AV×AV×D)) (clock:D)
 | gone
 | iter (o:Y5)
 deriving Inhabited
inductive Tr (α:Type) where
 | lf
 | nd (v:α) (l r:Tr α)
def Tr.get {α:Type} (d:α):Tr α->D->α
 | .lf,_=>d
 | .nd v l r,i=>match i with
  | 0=>v
  | j+1=>match j%2 with
   | 0=>l.get d (j / 2)
   | _=>r.get d (j / 2)
def Tr.set {α:Type}:Tr α->D->α->Tr α
 | .lf,_,_=> .lf
 | .nd v l r,i,x=>match i with
  | 0=> .nd x l r
  | j+1=>match j%2 with
   | 0=> .nd v (l.set (j / 2) x) r
   | _=> .nd v l (r.set (j / 2) x)
def Tr.has {α:Type}:Tr α->D->M
 | .lf,_=>O
 | .nd _ l r,i=>match i with
  | 0=>L
  | j+1=>match j%2 with
   | 0=>l.has (j / 2)
   | _=>r.has (j / 2)
def Tr.mk {α:Type} (d:α):D->D->Tr α
 | 0,_=> .lf
 | k+1,n=>match n with
  | 0=> .lf
  | m+1=> .nd d (Tr.mk d k ((m+1) / 2)) (Tr.mk d k (m / 2))
def Tr.map {α β:Type} (f:α->β):Tr α->Tr β
 | .lf=> .lf
 | .nd v l r=> .nd (f v) (l.map f) (r.map f)
abbrev Env:=Tr AV
structure St where
 t:Env
 b:C af
def AV.cells:AV->C AV
 | .agg cs=>cs
 | v=> [v]
def AV.cO:AV->M
 | .any | .agg _ | .aK _=>O
 | _=>L
def fg:C AV->M
 | []=>L
 | v::r=>v.cO&&fg r
mutual
def AV.plain:AV->M
 | .ptr _ _ | .cZ _ _ _ _ | .aC _ _ | .gO _ _ _ _ | .gG _ _ _ | .cg _ | .lU _=>O
 | .agg cs=>ak cs
 | .aK cs=>ak cs
 | .fn _ a b=>ak a&&ak b
 | _=>L
def ak:C AV->M
 | []=>L
 | v::r=>v.plain&&ak r
end
mutual
def AV.flat:AV->M
 | .ptr _ _ | .cZ _ _ _ _ | .aC _ _ | .gO _ _ _ _ | .dB _ | .ah _ _ _ | .cG _ | .gG _ _ _ | .cg _ | .lU _=>O
 | .agg cs=>flatAll cs
 | .aK cs=>flatAll cs
 | .fn _ a b=>flatAll a&&flatAll b
 | _=>L
def flatAll:C AV->M
 | []=>L
 | v::r=>v.flat&&flatAll r
end
def AV.Ul:AV->D
 | .int _ _=>1
 | .str _=>2
 | .bool _=>3
 | .ah _ _ _=>4
 | .cG _=>4
 | _=>0
def AV.differ:AV->AV->M
 | .int _ n,.int _ m=>decide (n≠m)
 | .str s,.str t=>decide (s≠t)
 | .bool a,.bool b=>a !=b
 | x,y=>decide (x.Ul≠0/\y.Ul≠0/\x.Ul≠y.Ul)
def fh:C AV->C AV->M
 | [],_=>L
 | _::_, []=>O
 | x::xs,y::ys=> !x.differ y&&fh xs ys
def lr (xs:C AV):C AV->M
 | []=>fh xs []
 | y::ys=>fh xs (y::ys) || lr xs ys
mutual
def AV.apart (ys:C AV):AV->M
 | .ptr _ _ | .cZ _ _ _ _ | .aC _ _ | .gO _ _ _ _ | .dB _ | .fn _ _ _ | .gG _ _ _ | .cg _ | .lU _=>O
 | .ah _ _ es=>(es.isEmpty || !lr (es.flatMap AV.cells) ys)&&fq ys es
 | .agg cs=>fq ys cs
 | .aK cs=>fq ys cs
 | _=>L
def fq (ys:C AV):C AV->M
 | []=>L
 | v::r=>v.apart ys&&fq ys r
end
def kv:I->AV
 | .int k n=> .int k n
 | .bool b=> .bool b
 | .string s=> .str s.data.toList
 | .pointer none=> .cn
 | .slice F 0 0=> .ah (A L) 0 []
 | .nilFunc=> .er
 | .nilIface=> .il O
 | .agg _=> .any
 | .tuple _=> .any
 | _=> .jZ
def gH:I->AV
 | .agg cs=> .agg (cs.toList.map kv)
 | .tuple vs=> .aK (vs.toList.map kv)
 | v=>kv v
def ev (t:Env):ρ->AV
 | .tmp i=>t.get .any i
 | .const v=>gH v
 | .func f=> .fn f [] []
 | .global _=> .any
structure TI where
 desc:ξ
 size:D
 bytes:D
 zero:B (C AV)
 agg:M
 eq:M
 fields:C (J×D×D)
structure aD where
 ty:Tr (B TI)
 fn:Tr (B Func)
 ov:υ->B (C AV->B AV)
 GN:υ->B (C AV->C af->B (AV×C af))
 ext:υ->B (C AV->B AV)
 own:υ->M
 cut:M:=false
 kg:υ->M:=fun _=>O
 GO:υ->M:=fun _=>O
 rH:υ->B (D->Hd->D->C AV->C AV->B AV):=fun _=>F
def aD.ti (c:aD) (t:J):B TI:=c.ty.get F t
def aD.descOf (c:aD) (t:J):B ξ:=(c.ti t).map (·.desc)
def je (i:TI) (cs:C AV) (off:D):B AV:=
 match i.agg with
 | true=>if off+i.size<=É cs then A (.agg ((cs.drop off).take i.size)) else F
 | false=>cs[off]?
def mJ (op:Θ) (k:Β) (a b:Int):B AV:=
 match op with
 | .add=>A (.int k (k.wrap (a+b)))
 | .sub=>A (.int k (k.wrap (a-b)))
 | .mul=>A (.int k (k.wrap (a*b)))
 | .quo=>if b=0 then F else A (.int k (k.wrap (a.tdiv b)))
 | .rem=>if b=0 then F else A (.int k (a.tmod b))
 | .and=>A (.int k (k.wrap (BitVec.ofInt k.bits a&&&BitVec.ofInt k.bits b).toNat))
 | .or=>A (.int k (k.wrap (BitVec.ofInt k.bits a ||| BitVec.ofInt k.bits b).toNat))
 | .xor=>A (.int k (k.wrap (BitVec.ofInt k.bits a^^^BitVec.ofInt k.bits b).toNat))
 | .andNot=>A (.int k (k.wrap (BitVec.ofInt k.bits a&&& ~~~ BitVec.ofInt k.bits b).toNat))
 | .eql=>A (.bool (a==b))
 | .neq=>A (.bool (a !=b))
 | .lss=>A (.bool (decide (a<b)))
 | .leq=>A (.bool (decide (a<=b)))
 | .gtr=>A (.bool (decide (a>b)))
 | .geq=>A (.bool (decide (a≥b)))
 | _=>F
def nA (op:Θ) (k:Β) (a b:Int):B AV:=
 if b<0 then F else
 match op with
 | .shl=>A (.int k (k.wrap (a*2^min b.toNat k.bits)))
 | .shr=>A (.int k (a.fdiv (2^min b.toNat k.bits)))
 | _=>F
def xG:D:=4611686018427387904
def Aq (op:Θ) (a b:C Α):B AV:=
 match op with
 | .add=>if (É a)+É b<=xG then A (.str (a++b)) else F
 | .eql=>A (.bool (a==b))
 | .neq=>A (.bool (!(a==b)))
 | .lss=>A (.bool (Op.bytesLess a b))
 | .leq=>A (.bool (Op.bytesLess a b || a==b))
 | .gtr=>A (.bool (!(Op.bytesLess a b || a==b)))
 | .geq=>A (.bool (!Op.bytesLess a b))
 | _=>F
def ky (c:aD) (d:ξ) (x y:AV):B M:=
 match d with
 | .bool=>match x,y with
  | .bool a,.bool b=>A (a==b)
  | _,_=>F
 | .int _=>match x,y with
  | .int k a,.int k' b=>if k=k' then A (a==b) else F
  | _,_=>F
 | .string=>match x,y with
  | .str a,.str b=>A (a==b)
  | _,_=>F
 | .pointer e=>match x,y with
  | .cn,.cn=>A L
  | .cn,.ptr _ _ | .ptr _ _,.cn | .cn,.dB _ | .dB _,.cn=>A O
  | .ptr k a,.ptr l b=>match c.ti e with
   | some j=>if j.size≠0 then A (k==l&&a==b) else F
   | none=>F
  | _,_=>F
 | .slice _=>match x,y with
  | .ah (A n) _ _,.ah (A L) 0 []=>A n
  | .ah _ _ (_::_),.ah (A L) 0 []=>A O
  | .cG (A n),.ah (A L) 0 []=>A n
  | _,_=>F
 | .func _ _ _=>match x,y with
  | .er,.er=>A L
  | .fn _ _ _,.er | .er,.fn _ _ _=>A O
  | _,_=>F
 | _=>F
def both:B M->B M->B M
 | some a,A b=>A (a&&b)
 | _,_=>F
def eqFields (part:J->C AV->D->B AV) (eq:J->AV->AV->B M) (xs ys:C AV):C (J×D×D)->B M
 | []=>A L
 | (t,off,_)::r=>match part t xs off,part t ys off with
  | some a,A b=>both (eq t a b) (eqFields part eq xs ys r)
  | _,_=>F
def eqItems (part:J->C AV->D->B AV) (eq:J->AV->AV->B M) (e:J) (n:D) (xs ys:C AV):C D->B M
 | []=>A L
 | i::r=>match part e xs (i*n),part e ys (i*n) with
  | some a,A b=>both (eq e a b) (eqItems part eq e n xs ys r)
  | _,_=>F
def jc (c:aD) (t:J) (cs:C AV) (off:D):B AV:=
 match c.ti t with
 | some i=>je i cs off
 | none=>F
def bu (c:aD):D->J->AV->AV->B M
 | 0,_,_,_=>F
 | d+1,t,x,y=>match c.ti t with
  | none=>F
  | some i=>match x,y with
   | .agg xs,.agg ys=>match i.eq with
    | true=>match i.desc with
     | .struct _=>eqFields (jc c) (bu c d) xs ys i.fields
     | .array n e=>match c.ti e with
      | some j=>eqItems (jc c) (bu c d) e j.size xs ys (ϊ n)
      | none=>F
     | _=>F
    | false=>F
   | x,y=>ky c i.desc x y
def jf (c:aD) (t:J) (op:Θ) (x y:AV):B AV:=
 match x,y with
 | .int k a,.int k' b=>match op with
  | .shl=>nA .shl k a b
  | .shr=>nA .shr k a b
  | op=>if k=k' then mJ op k a b else F
 | .str a,.str b=>Aq op a b
 | x,y=>match op with
  | .eql=>(bu c 20 t x y).map .bool
  | .neq=>(bu c 20 t x y).map fun b=> .bool (!b)
  | _=>F
def Kl:ρ->M
 | .const .nilIface=>L
 | _=>O
def Cn (c:aD) (t:J) (op:Θ) (x:AV):B AV:=
 match c.ti t with
 | some i=>match i.desc with
  | .interface _=>match op,x with
   | .eql,.il b=>A (.bool (!b))
   | .neq,.il b=>A (.bool b)
   | .eql,.mG _ _ _=>A (.bool O)
   | .neq,.mG _ _ _=>A (.bool L)
   | _,_=>F
  | _=>F
 | none=>F
def Km (c:aD) (t:J) (op:Θ) (q:ρ) (x y:AV):B AV:=
 match Kl q with
 | true=>Cn c t op x
 | false=>jf c t op x y
def P4 (op:UnOp) (x:AV):B AV:=
 match op,x with
 | .neg,.int k n=>mJ .sub k 0 n
 | .xor,.int k n=>mJ .xor k (if k.signed then -1 else k.max) n
 | .not,.bool b=>A (.bool (!b))
 | _,_=>F
def byteOf:AV->B Α
 | .int .u8 n=>A (UInt8.ofNat n.toNat)
 | _=>F
def bytesOf:C AV->B (C Α)
 | []=>A []
 | v::r=>match byteOf v,bytesOf r with
  | some c,A l=>A (c::l)
  | _,_=>F
def aq (c:Α):AV:= .int .u8 c.toNat
inductive dy where
 | none
 | new (b:af)
 | upd (k:D) (b:af)
 | move (k:D) (b:af)
 | app (b:af)
 | rH (k:D)
 | all (bs:C af)
abbrev Out:=B (AV×dy)
def oR:D:=16777216
def cx:D:=70368744177664
def af.at (bs:C af) (k:D):af:=bs.getD k .dead
def elems (bs:C af):AV->B (D×C AV)
 | .ah _ sz es=>A (sz,es)
 | .cG _=>A (0, [])
 | .aC k n=>match af.at bs k with
  | .sl _ sz es=>if n=É es then A (sz,es) else F
  | _=>F
 | .gO k n lo hi=>match af.at bs k with
  | .sl _ sz es=>if n=É es/\lo<=hi/\hi<=n then A (sz,(es.take hi).drop lo) else F
  | _=>F
 | _=>F
def dw (x:B AV) (d ř:D):B D:=
 match x with
 | .none=>A d
 | some (.int _ i)=>if 0<=i/\i<=(ř:Int) then A i.toNat else .none
 | _=> .none
def uC (agg:M) (n:D) (cs:C AV):B AV:=
 if (É cs)=n/\ak cs=L/\fg cs=L then match agg with
  | true=>A (.agg cs)
  | false=>match cs with
   | [v]=>match v with
    | .agg _=> .none
    | v=>A v
   | _=> .none
 else .none
def ab (cs:C AV) (off:D) (v:C AV):C AV:=cs.take off++v++cs.drop (off+É v)
def vE (place:D->B (D×D)) (cs:C AV):C (D×AV)->B (C AV)
 | []=>A cs
 | (i,v)::rest=>match place i with
  | .none=> .none
  | some (off,size)=>if v.cells.length=size/\off+size<=É cs/\fg v.cells=L then vE place (ab cs off v.cells) rest else .none
def mK (es:C AV) (sz:D):C (D×AV)->B (C AV)
 | []=>A es
 | (i,v)::rest=>if i<É es/\v.cells.length=sz/\v.plain=L/\fg v.cells=L then mK (es.set i v) sz rest else .none
def ou (t:Env) (xs:C ρ):C AV:=xs.map (ev t)
def Ko:AV->C AV->B AV
 | x, []=>A x
 | .int k a,.int k' b::rest=>if k=k' then Ko (.int k (if b<a then b else a)) rest else .none
 | _,_=> .none
def Kq:AV->C AV->B AV
 | x, []=>A x
 | .int k a,.int k' b::rest=>if k=k' then Kq (.int k (if b>a then b else a)) rest else .none
 | _,_=> .none
def rI (d:ξ) (x:AV) (bs:C af):Out:=
 match d with
 | .string=>match x with
  | .str s=>A (.int .i64 (É s),.none)
  | _=> .none
 | .slice _=>match elems bs x with
  | some (_,es)=>A (.int .i64 (É es),.none)
  | .none=> .none
 | .array n _=>A (.int .i64 n,.none)
 | _=> .none
def oS (i:TI):M:=
 match i.zero with
 | some z=>É z==i.size
 | .none=>O
def fr (i:TI) (el:J) (bs:C af) (s:AV) (xs:C AV) (id:D):Out:=
 match s with
 | .ah (A L) z []=>match xs with
  | []=>A (.ah (A L) z [],.none)
  | xs=>if (É xs)*(i.bytes+1)<=cx/\oS i=L then A (.aC id (É xs),.new (.sl ⟨O,A el,F⟩ i.size xs)) else .none
 | .cG nl=>match xs with
  | []=>A (.cG nl,.none)
  | xs=>if (É xs)*(i.bytes+1)<=cx/\oS i=L then A (.aC id (É xs),.new (.sl ⟨O,A el,F⟩ i.size xs)) else .none
 | .aC k n=>match af.at bs k with
  | .sl sh sz es=>if n=É es/\sz=i.size/\sh.ty=A el/\(n+É xs)*(i.bytes+1)<=cx/\oS i=L then A (.aC k (n+É xs),.upd k (.sl ⟨sh.out,sh.ty,F⟩ sz (es++xs))) else .none
  | _=> .none
 | .gO k n lo hi=>match af.at bs k with
  | .sl sh sz es=>if n=É es/\lo=0/\hi<=n/\xs≠ []/\sz=i.size/\sh.out=O/\sh.ty=A el/\(hi+É xs)*(i.bytes+1)<=cx/\oS i=L then A (.aC id (hi+É xs),.move k (.sl ⟨sh.out,sh.ty,F⟩ sz (es.take hi++xs))) else .none
  | _=> .none
 | _=> .none
def iV (c:aD) (bs:C af) (st xt:J) (s x:AV) (id:D):Out:=
 match c.ti st,c.ti xt with
 | some i,A j=>match i.desc with
  | .slice e=>match c.ti e with
   | some k=>match j.desc with
    | .slice _=>match elems bs x with
     | some (sz,xs)=>if sz=k.size\/xs= [] then fr k e bs s xs id else .none
     | .none=> .none
    | .string=>match x with
     | .str l=>if k.size=1 then fr k e bs s (l.map aq) id else .none
     | _=> .none
    | _=> .none
   | .none=> .none
  | _=> .none
 | _,_=> .none
def partOf:AV->B (D×D×D×D)
 | .aC k n=>A (k,n,0,n)
 | .gO k n lo hi=>A (k,n,lo,hi)
 | _=>F
def Co (i:TI) (el:J) (bs:C af) (d:AV) (xs:C AV):Out:=
 match partOf d with
 | some (k,n,lo,hi)=>match af.at bs k with
  | .sl sh sz es=>if n=É es/\lo<=hi/\hi<=n/\sz=i.size/\sh.out=O/\sh.ty=A el then (if lo=hi then A (.int .i64 0,.none) else A (.int .i64 (xs.take (hi-lo)).length,.upd k (.sl ⟨sh.out,sh.ty,F⟩ sz (ab es lo (xs.take (hi-lo)))))) else .none
  | _=> .none
 | .none=>match d with
  | .cG _=>A (.int .i64 0,.none)
  | _=> .none
def xH (c:aD) (bs:C af) (st:J) (d x:AV):Out:=
 match c.ti st with
 | some i=>match i.desc with
  | .slice e=>match c.ti e with
   | some k=>match elems bs x with
    | some (sz,xs)=>if sz=k.size\/xs= [] then Co k e bs d xs else .none
    | .none=> .none
   | .none=> .none
  | _=> .none
 | .none=> .none
def D4 (x:AV) (bs:C af):Out:=
 match x with
 | .ah (A L) 0 []=>A (.cn,.none)
 | .aC k n=>match af.at bs k with
  | .sl _ _ es=>if n=É es then A (.cZ k n 0 0,.none) else .none
  | _=> .none
 | _=> .none
def lV:C AV->B (C Α)
 | []=>A []
 | .int .u8 n::r=>if 0<=n/\n<256 then (lV r).map (UInt8.ofNat n.toNat:: ·) else F
 | _::_=>F
def D5 (c:aD) (u:J) (x n:AV) (bs:C af):Out:=
 match x,n with
 | .cn,.int .i64 0=>A (.str [],.none)
 | .cZ k m 0 0,.int .i64 n=>match af.at bs k,c.ti u with
  | .sl sh sz es,A j=>if m=É es/\n=(m:Int)/\sh.ty=A u/\sz=1/\j.size=1/\m<=cx then (lV es).map fun s=>(.str s,.upd k (.sl ⟨sh.out,.none,F⟩ sz es)) else .none
  | _,_=> .none
 | _,_=> .none
def eR (c:aD) (b:Builtin) (argTypes:C J) (args:C AV) (bs:C af) (id:D):Out:=
 match b with
 | .len=>match argTypes,args with
  | [t], [x]=>match c.ti t with
   | some i=>rI i.desc x bs
   | .none=> .none
  | _,_=> .none
 | .append=>match argTypes,args with
  | [st,xt], [s,x]=>iV c bs st xt s x id
  | _,_=> .none
 | .min=>match args with
  | x::rest=>(Ko x rest).map (·,.none)
  | _=> .none
 | .max=>match args with
  | x::rest=>(Kq x rest).map (·,.none)
  | _=> .none
 | .unsafeSliceData=>match args with
  | [x]=>D4 x bs
  | _=> .none
 | .unsafeString=>match argTypes,args with
  | [t,_], [x,n]=>match c.descOf t with
   | some (.pointer u)=>D5 c u x n bs
   | _=> .none
  | _,_=> .none
 | .copy=>match argTypes,args with
  | [st,_], [d,x]=>xH c bs st d x
  | _,_=> .none
 | _=> .none
def xI (c a b:AV):Out:=
 match c with
 | .bool true=>A (a,.none)
 | .bool false=>A (b,.none)
 | _=> .none
def xJ (i:B TI) (e:J) (id:D):Out:=
 match i with
 | some i=>match i.zero with
  | some z=>A (.ptr id 0,.new (.var e z))
  | .none=> .none
 | .none=> .none
def MG (e:J) (cs:C AV) (id:D):Out:=
 match fg cs with
 | true=>A (.ptr id 0,.new (.var e cs))
 | false=> .none
def Cp (fs:C (J×D×D)) (i:D):B (D×D):=(fs[i]?).map (·.2)
def Cq (n i:D):B (D×D):=some (i*n,n)
def uD (c:aD) (i:B TI) (parts:C (D×AV)):Out:=
 match i with
 | some i=>match i.zero with
  | some z=>match i.desc with
   | .struct _=>(vE (Cp i.fields) z parts).map fun cs=>(.agg cs,.none)
   | .array _ e=>match c.ti e with
    | some j=>(vE (Cq j.size) z parts).map fun cs=>(.agg cs,.none)
    | .none=> .none
   | _=> .none
  | .none=> .none
 | .none=> .none
mutual
def ft (bs:C af):AV->B AV
 | .aC k n=>match af.at bs k with
  | .sl _ sz es=>if n=É es then A (.ah .none sz es) else .none
  | _=> .none
 | .gO k n lo hi=>match af.at bs k with
  | .sl _ sz es=>if n=É es/\lo<=hi/\hi<=n then A (.ah .none sz ((es.take hi).drop lo)) else .none
  | _=> .none
 | .agg cs=>match ak cs with
  | true=>A (.agg cs)
  | false=>(dO bs cs).map .agg
 | v=>A v
def dO (bs:C af):C AV->B (C AV)
 | []=>A []
 | v::r=>match ft bs v,dO bs r with
  | some a,A l=>A (a::l)
  | _,_=> .none
end
mutual
def AV.leaves:AV->C AV
 | .agg cs=>match ak cs with
  | true=> []
  | false=>bc cs
 | v=> [v]
def bc:C AV->C AV
 | []=> []
 | v::r=>v.leaves++bc r
end
def aX (bs:C af):C AV->C af
 | []=>bs
 | .aC k _::r=>aX (match af.at bs k with | .sl sh sz es=>bs.set k (.sl ⟨L,sh.ty,F⟩ sz es) | _=>bs) r
 | .gO k _ _ _::r=>aX (match af.at bs k with | .sl sh sz es=>bs.set k (.sl ⟨L,sh.ty,F⟩ sz es) | _=>bs) r
 | _::r=>aX bs r
def nC:C AV->M
 | []=>O
 | .aC _ _::_=>L
 | .gO _ _ _ _::_=>L
 | _::r=>nC r
def jg (c:aD) (i:B TI) (len:D) (parts:C (D×AV)) (id:D):Out:=
 match i with
 | some i=>match i.desc with
  | .slice e=>match c.ti e with
   | some j=>match j.zero with
    | some z=>if len=0 then (match parts with | []=>A (.cG (A O),.none) | _::_=> .none) else if len*j.size<=oR then match uC j.agg j.size z with
      | some ze=>(mK (χ len ze) j.size parts).map fun es=>(.aC id len,.new (.sl ⟨O,A e,F⟩ j.size es))
      | .none=> .none
     else .none
    | .none=> .none
   | .none=> .none
  | _=> .none
 | .none=> .none
def AV.dR:AV->AV
 | .cG nl=> .ah nl 0 []
 | v=>v
def AV.soft:AV->AV
 | .agg cs=> .agg (cs.map AV.dR)
 | v=>v.dR
def gX (c:aD) (i:B TI) (len:D) (parts:C (D×AV)) (id:D) (bs:C af):Out:=
 match ak (parts.map (·.2)) with
 | true=>jg c i len parts id
 | false=>match dO bs (parts.map (·.2)),bs[id]? with
  | some l,A .dead=>match ak l,jg c i len ((parts.map (·.1)).zip l) id with
   | true,A (v,.new b)=>A (v,.all ((aX bs (bc (parts.map (·.2)))).set id b))
   | _,_=> .none
  | _,_=> .none
def fv (c:aD) (i:B TI) (len:D) (parts:C (D×AV)) (id:D) (bs:C af):Out:=
 gX c i len (parts.map fun p=>(p.1,p.2.soft)) id bs
def linked (sh:Hd) (j:D) (i:TI) (cs:C AV):C AV:=
 match sh.link with
 | some (i',j',k',n)=>match i.agg with
  | false=>if i'=j then cs.set j' (.aC k' n) else cs
  | true=>cs
 | none=>cs
def oT (i:B TI) (a:AV) (bs:C af):Out:=
 match i with
 | some i=>match a with
  | .ptr k off=>match af.at bs k with
   | .var _ cs=>(je i cs off).map (·,.none)
   | _=> .none
  | .cZ k n j off=>match af.at bs k with
   | .sl sh _ es=>if n=É es then match es[j]? with
     | some e=>(je i (linked sh j i e.cells) off).map (·,.none)
     | .none=> .none
    else .none
   | _=> .none
  | .dB cs=>(je i cs 0).map (·,.none)
  | _=> .none
 | .none=> .none
def du (e:AV) (off:D) (v:C AV):B AV:=
 match e with
 | .agg cs=>if off+É v<=É cs/\ak v=L then A (.agg (ab cs off v)) else .none
 | _=>match off,v with
  | 0, [c]=>if c.plain=L then (match c with | .agg _=> .none | c=>A c) else .none
  | _,_=> .none
def MH:C AV->B (D×D)
 | [.aC k m]=>A (k,m)
 | _=>F
def j0 (bs:C af) (k k' m j off:D) (sh:Hd) (sz:D) (es:C AV) (e:AV):Out:=
 match ft bs (.aC k' m),decide (k'=k) with
 | some l,false=>(du e off [l]).map fun e'=>(.aK [],.all ((aX bs [.aC k' m]).set k (.sl ⟨sh.out,sh.ty,A (j,off,k',m)⟩ sz (es.set j e'))))
 | _,_=> .none
theorem lW {bs:C af} {k k' m j off:D} {sh:Hd} {sz:D} {es:C AV} {x r:AV} {e:dy} (h:j0 bs k k' m j off sh sz es x=A (r,e)): ∃b,e= .all b:=by
 unfold j0 at h;split at h
 ·rename_i l _ _;cases hst:du x off [l] with
  | none=>rw [hst] at h;cases h
  | some y=>rw [hst] at h;cases h;exact ⟨_,rfl⟩
 ·cases h
def oU (i:B TI) (a:AV) (v:C AV) (bs:C af):Out:=
 match i with
 | some i=>if (É v)=i.size/\fg v=L then match a with
   | .ptr k off=>match af.at bs k with
    | .var ty cs=>if off+É v<=É cs then A (.aK [],.upd k (.var ty (ab cs off v))) else .none
    | _=> .none
   | .cZ k n j off=>match af.at bs k with
    | .sl sh sz es=>if n=É es/\sh.out=O/\sh.ty.isSome=L then match es[j]? with
      | some e=>match MH v with
       | some (k',m)=>j0 bs k k' m j off sh sz es e
       | .none=>(du e off v).map fun e'=>(.aK [],.upd k (.sl ⟨sh.out,sh.ty,F⟩ sz (es.set j e')))
      | .none=> .none
     else .none
    | _=> .none
   | _=> .none
  else .none
 | .none=> .none
def fk:AV->M
 | .int _ _ | .bool _ | .str _=>L
 | _=>O
def fY:AV->M
 | .agg cs=>cs.all fk
 | v=>fk v
def gR:AV->AV->M
 | .int k a,.int k' b=>decide (k=k')&&a==b
 | .bool a,.bool b=>a==b
 | .str a,.str b=>a==b
 | _,_=>O
def mF:C AV->C AV->M
 | [], []=>L
 | a::r,b::s=>gR a b&&mF r s
 | _,_=>O
def sameKey:AV->AV->M
 | .agg a,.agg b=>mF a b
 | a,b=>gR a b
def gD (part:J->C AV->D->B AV) (Ę:J->AV->M) (cs:C AV):C (J×D×D)->M
 | []=>L
 | (t,off,_)::r=>match part t cs off with
  | some a=>Ę t a&&gD part Ę cs r
  | none=>O
def sN (part:J->C AV->D->B AV) (Ę:J->AV->M) (e:J) (n:D) (cs:C AV):C D->M
 | []=>L
 | i::r=>match part e cs (i*n) with
  | some a=>Ę e a&&sN part Ę e n cs r
  | none=>O
def bU (c:aD):D->J->AV->M
 | 0,_,_=>O
 | d+1,t,x=>match c.ti t with
  | some i=>match i.desc with
   | .struct _=>match x with
    | .agg cs=>gD (jc c) (bU c d) cs i.fields
    | _=>O
   | .array n e=>match x,c.ti e with
    | .agg cs,A j=>sN (jc c) (bU c d) e j.size cs (ϊ n)
    | _,_=>O
   | .interface _=>O
   | _=>L
  | none=>O
def la (eq:AV->AV->B M) (k:AV):C (AV×AV×D)->D->B (B (D×AV×AV×D))
 | [],_=>A F
 | e::r,i=>match eq k e.1 with
  | some true=>A (A (i,e))
  | some false=>la eq k r (i+1)
  | none=>F
def kr (i:TI):B AV:=
 match i.zero with
 | some z=>match i.agg with
  | true=>A (.agg z)
  | false=>match z with
   | [x]=>A x
   | _=>F
 | none=>F
def dJ (x:AV) (bs:C af):B (C (AV×AV×D)):=
 match x with
 | .iv=>A []
 | .cg k=>match af.at bs k with
  | .mp es _=>A es
  | _=>F
 | _=>F
def jy (ok:M) (v:AV) (b:M):AV:=
 match ok with
 | true=> .aK [v,.bool b]
 | false=>v
def cv (c:aD) (i:B TI) (x k:AV) (ok:M) (bs:C af):Out:=
 match i with
 | some i=>match i.desc with
  | .map kt el=>match dJ x bs with
   | some es=>match bU c 8 kt k with
    | true=>match la (bu c 20 kt) k es 0 with
     | some (A (_,e))=>A (jy ok e.2.1 L,.none)
     | some .none=>match c.ti el with
      | some j=>(kr j).map fun z=>(jy ok z O,.none)
      | .none=> .none
     | .none=> .none
    | false=> .none
   | .none=> .none
  | _=> .none
 | .none=> .none
def gE:AV->M
 | .aC _ _=>L
 | .any=>L
 | x=>x.plain
def aH (c:aD) (i:B TI) (m k x:AV) (bs:C af):Out:=
 match i with
 | some i=>match i.desc with
  | .map kt _=>match m with
   | .cg b=>match af.at bs b with
    | .mp es clock=>match bU c 8 kt k&&fY k&&gE x with
     | true=>match la (bu c 20 kt) k es 0 with
      | some (A (j,e))=>match sameKey e.1 k with
       | true=>A (.aK [],.upd b (.mp (es.set j (k,x,e.2.2)) clock))
       | false=> .none
      | some .none=>A (.aK [],.upd b (.mp (es++ [(k,x,clock)]) (clock+1)))
      | .none=> .none
     | false=> .none
    | _=> .none
   | _=> .none
  | _=> .none
 | .none=> .none
def j4 (c:aD) (i:B TI) (m k:AV) (bs:C af):Out:=
 match i with
 | some i=>match i.desc with
  | .map kt el=>match m with
   | .cg b=>match af.at bs b with
    | .mp es clock=>match bU c 8 kt k&&fY k with
     | true=>match la (bu c 20 kt) k es 0 with
      | some (A (_,e))=>match sameKey e.1 k with
       | true=>A (.aK [e.2.1,.int .i64 e.2.2],.upd b (.mp es clock))
       | false=> .none
      | some .none=>match c.ti el with
       | some j=>match kr j with
        | some z=>match z.plain with
         | true=>A (.aK [z,.int .i64 clock],.upd b (.mp (es++ [(k,z,clock)]) (clock+1)))
         | false=> .none
        | .none=> .none
       | .none=> .none
      | .none=> .none
     | false=> .none
    | _=> .none
   | _=> .none
  | _=> .none
 | .none=> .none
def vz (n:Int):C (AV×AV×D)->D->B (D×AV×AV×D)
 | [],_=>F
 | e::r,i=>if (e.2.2:Int)=n then A (i,e) else vz n r (i+1)
def gI (m s x:AV) (bs:C af):Out:=
 match m,s with
 | .cg b,.int _ n=>match af.at bs b with
  | .mp es clock=>match gE x with
   | true=>match vz n es 0 with
    | some (j,e)=>A (.aK [],.upd b (.mp (es.set j (e.1,x,e.2.2)) clock))
    | .none=> .none
   | false=> .none
  | _=> .none
 | _,_=> .none
def oV (x:AV) (bs:C af):Out:=
 match x with
 | .lU k=>match af.at bs k with
  | .iter (.map m seen clock)=>match seen.getLast?,af.at bs m with
   | some n,.mp es ī=>if ī=clock then (match vz n es 0 with
     | some (_,e)=>A (.aK [e.1,e.2.1],.none)
     | .none=> .none) else .none
   | _,_=> .none
  | _=> .none
 | _=> .none
def gW (r:B AV) (i:B TI) (id:D):Out:=
 match i with
 | some i=>match i.desc with
  | .map _ _=>match r with
   | .none=>A (.cg id,.new (.mp [] 0))
   | some (.int _ _)=>A (.cg id,.new (.mp [] 0))
   | _=> .none
  | _=> .none
 | .none=> .none
def nD (i:B TI) (x:AV) (bs:C af) (id:D):Out:=
 match i with
 | some i=>match i.desc,x with
  | .string,.str s=>A (.lU id,.new (.iter (.str s 0)))
  | .map _ _,.cg m=>match af.at bs m with
   | .mp _ clock=>match decide (m<id) with
    | true=>A (.lU id,.new (.iter (.map m [] clock)))
    | false=> .none
   | _=> .none
  | _,_=> .none
 | .none=> .none
def nE (s:C Α) (pos:D):D×D:=Utf8.decode ⟨s.toArray⟩ pos
def xK (x:AV) (str:M) (bs:C af):Out:=
 match x,str with
 | .lU k,true=>match af.at bs k with
  | .iter (.str s pos)=>match decide (pos<É s) with
   | true=>A (.aK [.bool L,.int .i64 pos,.int .i32 (nE s pos).1],.upd k (.iter (.str s (pos+(nE s pos).2))))
   | false=>A (.aK [.bool O],.upd k (.iter (.str s pos)))
  | _=> .none
 | _,_=> .none
def iI (x:AV):Out:=
 match x with
 | .ptr k off=>A (.ptr k off,.none)
 | .dB cs=>A (.dB cs,.none)
 | .fn f a b=>A (.fn f a b,.none)
 | _=> .none
def xL (c:aD) (t:J) (x:AV):Out:=
 match c.ti t with
 | some i=>match i.desc,x with
  | .int _,.int k n=>A (.mG t k n,.none)
  | _,_=> .none
 | .none=> .none
def et (c:aD) (src dst:B TI) (x:AV) (bs:C af) (id:D):Out:=
 match src,dst with
 | some s,A d=>match d.desc,x with
  | .unsafePointer,.ptr k off=>match s.desc,af.at bs k with
   | .pointer t,.var _ cs=>match c.ti t with
    | some j=>if j.size≠0/\off<É cs then A (.ptr k off,.none) else .none
    | .none=> .none
   | _,_=> .none
  | .pointer u,.ptr k 0=>match s.desc,af.at bs k with
   | .unsafePointer,.var ty cs=>match c.ti u with
    | some j=>if ty=u/\j.size=É cs/\j.size≠0 then A (.ptr k 0,.none) else .none
    | .none=> .none
   | _,_=> .none
  | .int k,.int _ n=>A (.int k (k.wrap n),.none)
  | .string,.str s=>A (.str s,.none)
  | .string,.int _ n=>A (.str (Utf8.encode n).data.toList,.none)
  | .slice e,.str l=>match s.desc,c.descOf e with
   | .string,A (.int .u8)=>if l= [] then A (.ah (A O) 1 [],.none) else if (É l)<=cx then A (.aC id (É l),.new (.sl ⟨O,A e,F⟩ 1 (l.map aq))) else .none
   | _,_=> .none
  | .string,x=>match s.desc with
   | .slice e=>match c.descOf e,elems bs x with
    | some (.int .u8),A (_,es)=>(bytesOf es).map fun s=>(.str s,.none)
    | _,_=> .none
   | _=> .none
  | _,_=> .none
 | _,_=> .none
def kz (c:aD) (i:B TI) (l m:AV) (id:D):Out:=
 match i,l,m with
 | some i,.int _ l,.int _ m=>match i.desc with
  | .slice e=>match c.ti e with
   | some j=>match j.zero with
    | some z=>if 0<=l/\l<=m/\m*(j.bytes+1)<=(cx:Int) then match uC j.agg j.size z with
      | some ze=>if m=0 then A (.cG (A O),.none) else A (.aC id l.toNat,.new (.sl ⟨O,A e,F⟩ j.size (χ l.toNat ze)))
      | .none=> .none
     else .none
    | .none=> .none
   | .none=> .none
  | _=> .none
 | _,_,_=> .none
def uE (i:B TI) (sz:D) (es:C AV):M:=
 match i with
 | some i=>sz==i.size || es.isEmpty
 | .none=>O
def dX (c:aD) (d:ξ) (x:AV) (lo hi:B AV) (bs:C af):Out:=
 match d,x with
 | .string,.str s=>match dw hi (É s) (É s) with
  | some h=>(dw lo 0 h).map fun l=>(.str ((s.take h).drop l),.none)
  | .none=> .none
 | .slice el,.ah nl sz es=>match uE (c.ti el) sz es with
  | true=>match dw hi (É es) (É es) with
   | some h=>(dw lo 0 h).map fun l=>(.ah nl sz ((es.take h).drop l),.none)
   | .none=> .none
  | false=> .none
 | .slice el,.aC k n=>match af.at bs k with
  | .sl sh sz es=>if n=É es/\uE (c.ti el) sz es=L then match dw hi (É es) (É es) with
    | some h=>(dw lo 0 h).map fun l=>match c.cut with
     | true=>if l=0/\h=n then (.aC k n,.none) else (.gO k n l h,.none)
     | false=>(.ah .none sz ((es.take h).drop l),match sh.out,sh.link with | true,.none=> .none | _,_=> .upd k (.sl ⟨L,sh.ty,F⟩ sz es))
    | .none=> .none
   else .none
  | _=> .none
 | .slice el,.gO k n a z=>match af.at bs k with
  | .sl _ sz es=>if n=É es/\a<=z/\z<=n/\uE (c.ti el) sz es=L then match dw hi (z-a) (z-a) with
    | some h=>(dw lo 0 h).map fun l=>(.gO k n (a+l) (a+h),.none)
    | .none=> .none
   else .none
  | _=> .none
 | _,_=> .none
def isZero:B AV->M
 | some (.int _ n)=>n==0
 | .none=>O
 | _=>O
def lu (c:aD) (d:ξ) (x:AV) (lo hi mx:B AV) (bs:C af):Out:=
 match d with
 | .slice el=>match elems bs x,c.ti el with
  | some _,A _=>if (lo.isNone || isZero lo)&&isZero hi&&isZero mx then A (.cG F,.none) else .none
  | _,_=> .none
 | _=> .none
def ow (x:AV) (o:D) (bs:C af):Out:=
 match x with
 | .ptr k off=>A (.ptr k (off+o),.none)
 | .cZ k n i off=>match af.at bs k with
  | .sl _ _ es=>if n=É es/\i<n then A (.cZ k n i (off+o),.none) else .none
  | _=> .none
 | .dB cs=>A (.dB (cs.drop o),.none)
 | _=> .none
def c9 (i:B TI) (x:AV) (f:D) (bs:C af):Out:=
 match i with
 | some i=>match i.desc with
  | .struct _=>match i.fields[f]? with
   | some (_,o,n)=>match n with
    | 0=> .none
    | _+1=>ow x o bs
   | .none=> .none
  | _=> .none
 | .none=> .none
def rJ (c:aD) (i:B TI) (x:AV) (f:D):Out:=
 match i,x with
 | some i,.agg cs=>match i.desc with
  | .struct _=>match i.fields[f]? with
   | some (ty,o,_)=>(jc c ty cs o).map (·,.none)
   | .none=> .none
  | _=> .none
 | _,_=> .none
def eG (c:aD) (i:B TI) (x:AV) (ix:AV) (bs:C af):Out:=
 match i,ix with
 | some i,.int _ n=>match i.desc with
  | .array len e=>if 0<=n/\n<(len:Int) then match c.ti e with
    | some j=>ow x (n.toNat*j.size) bs
    | .none=> .none
   else .none
  | .slice e=>match c.ti e with
   | some j=>match x with
    | .ah _ sz es=>if 0<=n/\sz=j.size then match es[n.toNat]? with
      | some v=>A (.dB v.cells,.none)
      | .none=> .none
     else .none
    | .aC k m=>match af.at bs k with
     | .sl _ sz es=>if 0<=n/\m=É es/\n<(m:Int)/\sz=j.size then A (.cZ k m n.toNat 0,.none) else .none
     | _=> .none
    | .gO k m lo hi=>match af.at bs k with
     | .sl _ sz es=>if 0<=n/\m=É es/\hi<=m/\(lo:Int)+n<(hi:Int)/\sz=j.size then A (.cZ k m (lo+n.toNat) 0,.none) else .none
     | _=> .none
    | _=> .none
   | .none=> .none
  | _=> .none
 | _,_=> .none
def rK (c:aD) (i:B TI) (x:AV) (ix:AV):Out:=
 match i,ix with
 | some i,.int _ n=>match i.desc,x with
  | .string,.str s=>if 0<=n then match s[n.toNat]? with
    | some c=>A (.int .u8 c.toNat,.none)
    | .none=> .none
   else .none
  | .array len e,.agg cs=>if 0<=n/\n<(len:Int) then match c.ti e with
    | some j=>(je j cs (n.toNat*j.size)).map (·,.none)
    | .none=> .none
   else .none
  | _,_=> .none
 | _,_=> .none
def kA (x:AV) (i:D):Out:=
 match x with
 | .aK vs=>(vs[i]?).map (·,.none)
 | _=> .none
def gn (c:aD) (op:Op) (t:Env) (bs:C af) (id:D):Out:=
 match op with
 | .move x | .assign x=>A (ev t x,.none)
 | .pick x a b=>xI (ev t x) (ev t a) (ev t b)
 | .alloc e=>xJ (c.ti e) e id
 | .box e x=>MG e (ev t x).cells id
 | .build ty parts=>uD c (c.ti ty) (parts.toList.map fun p=>(p.1,ev t p.2))
 | .buildSlice ty len parts=>fv c (c.ti ty) len (parts.toList.map fun p=>(p.1,ev t p.2)) id bs
 | .load ty a=>oT (c.ti ty) (ev t a) bs
 | .store ty a x=>oU (c.ti ty) (ev t a) (ev t x).cells bs
 | .nilCheck x=>iI (ev t x)
 | .makeInterface ty x=>xL c ty (ev t x)
 | .binOp op ty x y _=>(Km c ty op y (ev t x) (ev t y)).map (·,.none)
 | .unOp op _ x=>(P4 op (ev t x)).map (·,.none)
 | .convert src dst x=>et c (c.ti src) (c.ti dst) (ev t x) bs id
 | .makeFunc (.func f) first caps=>A (.fn f (ou t first.toList) (ou t caps.toList),.none)
 | .makeSlice ty l m=>kz c (c.ti ty) (ev t l) (ev t m) id
 | .slice ty x lo hi mx=>match c.ti ty with
  | some i=>match mx with
   | .none=>dX c i.desc (ev t x) (lo.map (ev t)) (hi.map (ev t)) bs
   | some m=>lu c i.desc (ev t x) (lo.map (ev t)) (hi.map (ev t)) (A (ev t m)) bs
  | .none=> .none
 | .fieldAddr Ņ x f=>c9 (c.ti Ņ) (ev t x) f bs
 | .field Ņ x f=>rJ c (c.ti Ņ) (ev t x) f
 | .indexAddr ty x ix=>eG c (c.ti ty) (ev t x) (ev t ix) bs
 | .index ty x ix=>rK c (c.ti ty) (ev t x) (ev t ix)
 | .extract x i=>kA (ev t x) i
 | .makeMap ty r=>gW (r.map (ev t)) (c.ti ty) id
 | .range ty x=>nD (c.ti ty) (ev t x) bs id
 | .next x str=>xK (ev t x) str bs
 | .lookup ty x k ok=>cv c (c.ti ty) (ev t x) (ev t k) ok bs
 | .mapUpdate ty m k x=>aH c (c.ti ty) (ev t m) (ev t k) (ev t x) bs
 | .insert ty m k x=>aH c (c.ti ty) (ev t m) (ev t k) (ev t x) bs
 | .mapEntry ty m k=>j4 c (c.ti ty) (ev t m) (ev t k) bs
 | .entryStore _ m s x=>gI (ev t m) (ev t s) (ev t x) bs
 | .entry x=>oV (ev t x) bs
 | .call k=>match k.callee with
  | .builtin b=>eR c b k.argTypes.toList (ou t k.args.toList) bs id
  | _=> .none
 | _=> .none
def asks:Op->M
 | .alloc _ | .box _ _ | .buildSlice _ _ _ | .makeSlice _ _ _ | .convert _ _ _ | .makeMap _ _ | .range _ _=>L
 | .call k=>match k.callee with
  | .builtin .append=>L
  | _=>O
 | _=>O
def bh (ops:R ε) (t:Env) (g:B (D×M)):B M:=
 match g with
 | .none=>A L
 | some (j,want)=>match (ops[j]?).bind (·.dst) with
  | .none=>A O
  | some d=>match t.get .any d with
   | .bool b=>A (b==want)
   | .aK _=>A O
   | _=> .none
def aP (t:Env) (d:B Tmp) (v:AV):Env:=
 match d with
 | some i=>t.set i v
 | .none=>t
def dy.on (e:dy) (bs:C af) (id:D):B (C af):=
 match e with
 | .none=>A bs
 | .new b=>match bs[id]? with
  | some .dead=>A (bs.set id b)
  | _=> .none
 | .upd k b=>A (bs.set k b)
 | .move k b=>match bs[id]? with
  | some .dead=>A ((bs.set k .gone).set id b)
  | _=> .none
 | .app b=>A (bs++ [b])
 | .rH k=>A (bs.set k .gone)
 | .all bs'=>A bs'
inductive Y6 where
 | fn (f:υ)
 | gG (k:D) (s:Site) (env:C AV)
abbrev aQ:=Y6->C AV->C af->B (AV×C af)
def rL (v:AV):af->M
 | .sl sh _ es=>sh.out || v.apart (es.flatMap AV.cells)
 | _=>O
def dK (v:AV) (bs:C af):C AV->M
 | []=>L
 | .aC k _::r=>rL v (af.at bs k)&&dK v bs r
 | .gO k _ _ _::r=>rL v (af.at bs k)&&dK v bs r
 | _::r=>dK v bs r
def cI (k:M) (v:AV) (args:C AV) (bs:C af):Out:=
 match v.flat || !nC args || (k&&dK v bs args) with
 | true=>A (v,.none)
 | false=>A (v,.all (aX bs args))
def Cr (v:AV) (b:C af):B (D×Hd×D×C AV):=
 match v with
 | .aC k n=>match af.at b k with
  | .sl sh sz es=>match sh.link with
   | none=>A (n,sh,sz,es)
   | some _=>F
  | _=>F
 | _=>F
theorem Kr {v:AV} {b:C af} {n:D} {sh:Hd} {sz:D} {es:C AV} (h:Cr v b=A (n,sh,sz,es)): ∃k,v= .aC k n/\af.at b k= .sl sh sz es/\sh.link=none:=by
 unfold Cr at h;split at h
 ·split at h
  ·rename_i hb;split at h
   ·rename_i hl;cases h;exact ⟨_,rfl,hb,hl⟩
   ·cases h
  ·cases h
 ·cases h
def vF (c:aD) (cf:aQ) (f:υ) (args:C AV) (bs:C af):Out:=
 match dO bs args with
 | some l=>match ak l with
  | true=>match c.ov f with
   | some g=>match g l with
    | some v=>if v.plain=L then cI (c.GO f) v (bc args) bs else .none
    | .none=> .none
   | .none=>match cf (.fn f) l [] with
    | some (v, [])=>if v.plain=L then cI (c.GO f) v (bc args) bs else .none
    | some (v,x::r)=>match Cr v (x::r) with
     | some (n,sh,sz,es)=>match nC (bc args) with
      | true=>A (.aC (É bs) n,.all (aX bs (bc args)++ [.sl sh sz es]))
      | false=>A (.aC (É bs) n,.app (.sl sh sz es))
     | .none=>match cf (.fn f) args bs with
      | some (v,bs')=>A (v,.all bs')
      | .none=> .none
    | .none=> .none
  | false=>match cf (.fn f) args bs with
   | some (v,bs')=>A (v,.all bs')
   | .none=> .none
 | .none=> .none
def Ks (G:D->Hd->D->C AV->C AV->B AV) (args:C AV) (bs:C af):B (AV×D):=
 match args with
 | .aC k n::r=>match af.at bs k with
  | .sl sh sz es=>match G n sh sz es r with
   | some v=>A (v,k)
   | .none=> .none
  | _=> .none
 | _=> .none
def oz (c:aD) (cf:aQ) (f:υ) (args:C AV) (bs:C af):Out:=
 match c.kg f with
 | true=>match c.rH f with
  | some G=>match Ks G args bs with
   | some (v,k)=>A (v,.rH k)
   | .none=> .none
  | .none=>match cf (.fn f) args bs with
   | some (v,bs')=>A (v,.all bs')
   | .none=> .none
 | false=>vF c cf f args bs
def oA (c:aD) (cf:aQ) (f:υ) (args:C AV) (bs:C af):Out:=
 match c.GN f with
 | some g=>match g args bs with
  | some (v,bs')=>A (v,.all bs')
  | .none=> .none
 | .none=>oz c cf f args bs
def bB (c:aD) (cf:aQ) (op:Op) (t:Env) (bs:C af) (id:D):Out:=
 match op with
 | .call k=>match k.callee with
  | .value f=>match ev t f with
   | .fn g first caps=>match c.ext g with
    | some G=>match G (first++ou t k.args.toList++caps) with
     | some v=>A (v,.none)
     | .none=> .none
    | .none=>oA c cf g (first++ou t k.args.toList++caps) bs
   | .gG l s env=>match cf (.gG l s env) (ou t k.args.toList) bs with
    | some (v,bs')=>A (v,.all bs')
    | .none=> .none
   | _=> .none
  | _=>gn c (.call k) t bs id
 | op=>gn c op t bs id
def next (id:D) (op:Op):D:=match asks op with
 | true=>id+1
 | false=>id
def rM (c:aD) (cf:aQ) (ops:R ε):C ε->D->Env->C af->B St
 | [],_,t,bs=>A {t:=t,b:=bs}
 | o::rest,id,t,bs=>
  match bh ops t o.guard with
  | some true=>match bB c cf o.op t bs id with
   | some (v,e)=>match e.on bs id with
    | some bs'=>rM c cf ops rest (next id o.op) (aP t o.dst v) bs'
    | .none=> .none
   | .none=> .none
  | some false=>rM c cf ops rest (next id o.op) (aP t o.dst (.aK [])) bs
  | .none=> .none
def dn:C ε->D
 | []=>0
 | o::r=>(match asks o.op with | true=>1 | false=>0)+dn r
mutual
def AV.under (n:D):AV->M
 | .ptr k _ | .cZ k _ _ _ | .aC k _ | .gO k _ _ _ | .cg k | .lU k=>decide (k<n)
 | .agg cs=>aA n cs
 | .aK cs=>aA n cs
 | .fn _ a b=>aA n a&&aA n b
 | .gG k _ env=>decide (k<n)&&aA n env
 | _=>L
def aA (n:D):C AV->M
 | []=>L
 | v::r=>v.under n&&aA n r
end
def forget (n:D) (v:AV):AV:=match v.under n with
 | true=>v
 | false=> .any
def c8 (n:D) (e:AV×AV×D):AV×AV×D:=(e.1,forget n e.2.1,e.2.2)
def fw (n:D) (sh:Hd):Hd:=
 match sh.link with
 | some (_,_,k,_)=>if k<n then sh else ⟨sh.out,sh.ty,F⟩
 | none=>sh
def b9 (n:D):af->af
 | .var ty cs=> .var ty (cs.map (forget n))
 | .sl sh sz es=> .sl (fw n sh) sz es
 | .mp es clock=> .mp (es.map (c8 n)) clock
 | b=>b
def St.cut (s:St) (n:D):St:=
 match decide (s.b.length<=n) with
 | true=>s
 | false=>{t:=s.t.map (forget n),b:=(s.b.take n).map (b9 n)}
mutual
def AV.hand (n:D) (bs:C af):AV->B AV
 | .aC k m=>if k<n then A (.aC k m) else match af.at bs k with
  | .sl _ sz es=>if m=É es then A (.ah .none sz es) else .none
  | _=> .none
 | .gO k m lo hi=>if k<n then A (.gO k m lo hi) else match af.at bs k with
  | .sl _ sz es=>if m=É es/\lo<=hi/\hi<=m then A (.ah .none sz ((es.take hi).drop lo)) else .none
  | _=> .none
 | .agg cs=>(lx n bs cs).map .agg
 | .aK cs=>(lx n bs cs).map .aK
 | .cG nl=>A (.ah nl 0 [])
 | v=>A v
def lx (n:D) (bs:C af):C AV->B (C AV)
 | []=>A []
 | v::r=>match v.hand n bs,lx n bs r with
  | some a,A l=>A (a::l)
  | _,_=> .none
end
def wZ (c:aD) (t:Env) (bs:C af):ResultVar->B AV
 | .tmp i=>A (t.get .any i)
 | .cell a ty=>match t.get .any a with
  | .ptr k off=>match af.at bs k,c.ti ty with
   | .var _ cs,A i=>je i cs off
   | _,_=> .none
  | _=> .none
def jh (c:aD) (t:Env) (bs:C af):C ResultVar->B (C AV)
 | []=>A []
 | r::l=>match wZ c t bs r,jh c t bs l with
  | some a,A b=>A (a::b)
  | _,_=> .none
def D6:C AV->AV
 | [v]=>v
 | l=> .aK l
def handOver (n:D) (s:St) (v:AV):B (AV×C af):=
 match v.hand n s.b with
 | some v'=>match v'.under n with
  | true=>A (v',((s.cut n).b))
  | false=>A (v,s.b)
 | .none=> .none
def gY:Env->D->C AV->Env
 | t,_, []=>t
 | t,i,v::r=>gY (t.set i v) (i+1) r
def start (n:D) (args:C AV):Env:=gY (Tr.mk .any 24 n) 0 args
def Cs (m:C D) (o:ε):D:=
 o.after.toList.foldl (fun s e=>match Region.binds .any e with | true=>s ||| (2^e.on ||| m.getD e.on 0) | false=>s) 0
def D7:C ε->C D->C D
 | [],m=>m
 | o::r,m=>D7 r (m++ [Cs m o])
def fJ (ops:R ε):C D:=D7 ops.toList []
def ordered (b:C D) (i j:D):M:=(b.getD j 0).testBit i
def dv:C ε->D->M
 | [],_=>L
 | o::r,k=>(o.after.toList.all fun e=> !Region.binds .any e || decide (e.on<k))&&dv r (k+1)
def Y7:Op->M
 | .select _ _=>O
 | _=>L
def sO (ops:R ε) (b:C D) (o:ε) (i:D):C ε->D->M
 | [],_=>L
 | p::r,j=>(ordered b i j || o.apart ops p)&&sO ops b o i r (j+1)
def oW (ops:R ε) (b:C D):C ε->D->M
 | [],_=>L
 | o::r,i=>Y7 o.op&&sO ops b o i r (i+1)&&oW ops b r (i+1)
def uF (ops:R ε):M:=dv ops.toList 0&&oW ops (fJ ops) ops.toList 0
def blind:Op->M
 | .move _ | .assign _ | .pick _ _ _ | .build _ _ | .binOp _ _ _ _ _ | .unOp _ _ _ | .index _ _ _ | .field _ _ _ | .extract _ _ | .nilCheck _=>L
 | _=>O
def qb (ops:R ε) (j:D):M:=
 match ops[j]? with
 | some o=>blind o.op
 | none=>L
def Cu (ops:R ε) (b:C D) (i:D):D->M
 | 0=>L
 | j+1=>(j==i || ordered b i j || ordered b j i || qb ops j)&&Cu ops b i j
def alone (ops:R ε) (i:D):M:=Cu ops (fJ ops) i ops.size
def bN:C ε->D->D->D
 | _,0,base=>base
 | [],_+1,base=>base
 | o::r,i+1,base=>bN r i (next base o.op)
def dC (b:C D) (i:D):C ε->D->D->C D
 | [],_,_=> []
 | o::r,j,id=>match asks o.op&& !ordered b j i with
  | true=>id::dC b i r (j+1) (next id o.op)
  | false=>dC b i r (j+1) (next id o.op)
def bp:C D->C af->C af
 | [],bs=>bs
 | k::r,bs=>bp r (bs.set k .dead)
def bF (ops:R ε) (base i:D) (bs:C af):C af:=bp (dC (fJ ops) i ops.toList 0 base) bs
def cP:Op->M
 | .store _ _ _=>L
 | _=>O
def e9:Op->M
 | .call ⟨.builtin .append,_,_⟩=>L
 | .slice _ _ _ _ .none=>L
 | _=>O
def sP (op:Op):af->M
 | .var _ _=>cP op
 | .sl _ _ _=>e9 op
 | _=>O
def dD:Op->B D
 | .load _ (.tmp p)=>A p
 | .slice _ (.tmp p) _ _ .none=>A p
 | _=>F
def isLen:Op->M
 | .call ⟨.builtin .len,_,_⟩=>L
 | _=>O
def nF (o:Op):C D:=o.operands.toList.filterMap fun | .tmp i=>A i | _=>F
def nG (ops:R ε) (j q:D):C ε->D->M
 | [],_=>L
 | o::r,k=>(o.dst !=A q || k==j || ordered (fJ ops) j k || ordered (fJ ops) k j)&&nG ops j q r (k+1)
def I5 (ops:R ε) (j:D):D->D->B D
 | 0,_=>F
 | n+1,p=>match ops.toList.filter fun o=>o.dst==A p with
  | []=>A p
  | [o]=>match o.op with
   | .move (.tmp q)=>match nG ops j q ops.toList 0 with
    | true=>A q
    | false=>F
   | .fieldAddr _ (.tmp q) _=>I5 ops j n q
   | _=>F
  | _=>F
def iW (ops:R ε) (j p:D):B D:=I5 ops j 4 p
def gd (ops:R ε) (j:D) (op:Op):B D:=
 match dD op with
 | some p=>iW ops j p
 | none=>F
def oX (ops:R ε) (b:C D) (i:D):C ε->D->C D
 | [],_=> []
 | o::r,j=>match j==i || ordered b i j || ordered b j i,gd ops j o.op with
  | false,A p=>p::oX ops b i r (j+1)
  | _,_=>oX ops b i r (j+1)
def iz (ops:R ε) (i:D):C D:=oX ops (fJ ops) i ops.toList 0
def jz (ops:R ε) (j:D) (op o:Op):M:=blind o || (isLen o&&cP op) || (match gd ops j o with | some q=> !(nF op).contains q | none=>O)
def sQ (ops:R ε) (b:C D) (i:D) (op:Op):C ε->D->M
 | [],_=>L
 | o::r,j=>(j==i || ordered b i j || ordered b j i || jz ops j op o.op)&&sQ ops b i op r (j+1)
def bq (ops:R ε) (i:D) (op:Op):M:=
 (cP op || e9 op)&&sQ ops (fJ ops) i op ops.toList 0&&(iz ops i).all fun p=>nG ops i p ops.toList 0
def oB:AV->B (B D)
 | .ptr k _=>A (A k)
 | .cZ k _ _ _=>A (A k)
 | .aC _ _=>A .none
 | .gO _ _ _ _=>A .none
 | _=> .none
def fQ (k:D) (v:AV):M:=
 match oB v with
 | .none=>L
 | some .none=>O
 | some (A k')=>k' !=k
def oY (ops:R ε):C ε->D->M
 | [],_=>O
 | o::r,i=>(!alone ops i&&bq ops i o.op) || oY ops r (i+1)
def qc (ops:R ε):M:=oY ops ops.toList 0
def cQ:Op->M
 | .call k=>match k.callee with
  | .value _=>L
  | _=>O
 | _=>O
def Cv (c:aD):Op->M
 | .call k=>match k.callee with
  | .value (.func f)=>c.own f
  | _=>O
 | _=>O
def eH:Op->B D
 | .load _ (.tmp p)=>A p
 | .fieldAddr _ (.tmp p) _=>A p
 | .call ⟨.builtin .len,args,_⟩=>match args.toList with
  | [.tmp p]=>A p
  | _=>F
 | _=>F
def oZ (ops:R ε) (j:D) (op:Op):B D:=
 match eH op with
 | some p=>iW ops j p
 | none=>F
def uG (ops:R ε) (b:C D) (i:D):C ε->D->C D
 | [],_=> []
 | o::r,j=>match j==i || ordered b i j || ordered b j i,oZ ops j o.op with
  | false,A p=>p::uG ops b i r (j+1)
  | _,_=>uG ops b i r (j+1)
def eS (ops:R ε) (i:D):C D:=uG ops (fJ ops) i ops.toList 0
def jQ:Op->M
 | .alloc _=>L
 | _=>O
def kB (ops:R ε) (b:C D) (i:D):C ε->D->M
 | [],_=>L
 | o::r,j=>(j==i || ordered b i j || ordered b j i || blind o.op || jQ o.op || (oZ ops j o.op).isSome)&&kB ops b i r (j+1)
def bg (c:aD) (ops:R ε) (i:D) (op:Op):M:=
 Cv c op&&kB ops (fJ ops) i ops.toList 0&&(eS ops i).all fun p=>ops.toList.all fun o=>o.dst !=A p
def xM (c:aD):Op->M
 | .call k=>match k.callee with
  | .value (.func f)=>(c.rH f).isSome
  | _=>O
 | _=>O
def fR (c:aD) (ops:R ε) (i:D) (op:Op):M:=
 xM c op&&kB ops (fJ ops) i ops.toList 0&&(eS ops i).all fun p=>(ops.toList.all fun o=>o.dst !=A p)&& !(nF op).contains p
def gZ (c:aD) (ops:R ε) (i:D) (op:Op):M:=bg c ops i op || fR c ops i op
def o0 (n:D):AV->M
 | .ptr k _=>decide (k<n)
 | .cZ k _ _ _=>decide (k<n)
 | .aC k _=>decide (k<n)
 | .gO k _ _ _=>decide (k<n)
 | .cg k=>decide (k<n)
 | .lU k=>decide (k<n)
 | _=>L
def sR (cf:aQ):aQ:=fun f args bs=>
 match f,bs with
 | .fn f, []=>match cf (.fn f) args [] with
  | some (v, [])=>A (v, [])
  | some (v,x::r)=>match v.hand 0 (x::r) with
   | some v'=>match v'.under 0 with
    | true=>A (v', [])
    | false=>A (v,x::r)
   | none=>F
  | none=>F
 | f,bs=>cf f args bs
def ji:AV->B D
 | .ptr k _=>A k
 | .cZ k _ _ _=>A k
 | .aC k _=>A k
 | .gO k _ _ _=>A k
 | .cg k=>A k
 | .lU k=>A k
 | _=>F
def sS (c:aD) (ops:R ε):C ε->D->M
 | [],_=>O
 | o::r,i=>(!alone ops i&&gZ c ops i o.op) || sS c ops r (i+1)
def sT (k:D) (v:AV):M:=ji v !=A k
def xN (c:aD) (ops:R ε):M:=sS c ops ops.toList 0
def iJ (op:Op):B D:=
 match eH op with
 | some p=>A p
 | none=>dD op
def cF (c:aD) (ops:R ε) (j:D) (op:Op) (t:Env):M:=
 match iJ op with
 | none=>L
 | some p=>match iW ops j p with
  | none=>L
  | some q=>(!xN c ops || ji (t.get .any p)==ji (t.get .any q))&&(!qc ops || oB (t.get .any p)==oB (t.get .any q))
def cM (cf:aQ):M->aQ
 | true=>cf
 | false=>sR cf
def aI (c:aD) (cf:aQ) (ops:R ε) (base i:D) (o:ε) (s:St):B St:=
 match bh ops s.t o.guard with
 | some true=>match alone ops i with
  | true=>match bB c cf o.op s.t s.b (bN ops.toList i base) with
   | some (v,e)=>match e.on s.b (bN ops.toList i base) with
    | some bs'=>A {t:=aP s.t o.dst v,b:=bs'}
    | .none=> .none
   | .none=> .none
  | false=>match bB c (cM cf (bg c ops i o.op)) o.op s.t (bF ops base i s.b) (bN ops.toList i base) with
   | some (v,.none)=>match cF c ops i o.op s.t with
    | true=>A {t:=aP s.t o.dst v,b:=s.b}
    | false=> .none
   | some (v,.new x)=>match asks o.op,s.b[bN ops.toList i base]? with
    | true,A .dead=>A {t:=aP s.t o.dst v,b:=s.b.set (bN ops.toList i base) x}
    | _,_=> .none
   | some (v,.upd k x)=>match bq ops i o.op&&sP o.op x&&cF c ops i o.op s.t&&(iz ops i).all fun p=>fQ k (s.t.get .any p) with
    | true=>A {t:=aP s.t o.dst v,b:=s.b.set k x}
    | false=> .none
   | some (v,.app x)=>match bg c ops i o.op&&(eS ops i).all fun p=>o0 s.b.length (s.t.get .any p) with
    | true=>A {t:=aP s.t o.dst v,b:=s.b++ [x]}
    | false=> .none
   | some (v,.rH k)=>match fR c ops i o.op&&(eS ops i).all fun p=>sT k (s.t.get .any p) with
    | true=>A {t:=aP s.t o.dst v,b:=s.b.set k .gone}
    | false=> .none
   | _=> .none
 | some false=>A {t:=aP s.t o.dst (.aK []),b:=s.b}
 | .none=> .none
def Kt (c:aD) (cf:aQ) (ops:R ε) (base:D):C ε->D->St->B St
 | [],_,s=>A s
 | o::r,i,s=>match aI c cf ops base i o s with
  | some s'=>Kt c cf ops base r (i+1) s'
  | .none=> .none
def P5 (c:aD) (fn:Func) (n:D) (r:B (Ex×St)):B (AV×C af):=
 match r with
 | some (.normal,s') | some (.ret,s')=>match jh c s'.t s'.b fn.results.toList with
  | some vs=>handOver n s' (D6 vs)
  | none=>F
 | _=>F
def D8 (c:aD) (ex:Code->St->B (Ex×St)):aQ:=fun f args bs=>
 match f with
 | .gG _ _ _=>F
 | .fn f=>match c.fn.get F f with
  | some fn=>match fn.body with
   | some a=>P5 c fn (É bs) (ex a {t:=start fn.ntmps args,b:=bs})
   | none=>F
  | none=>F
def region (c:aD) (cf:aQ) (ops:R ε) (draw:M) (s:St):B St:=
 match draw with
 | false=>rM c cf ops ops.toList s.b.length s.t (s.b++χ (dn ops.toList) .dead)
 | true=>match uF ops with
  | true=>Kt c cf ops s.b.length ops.toList 0 {s with b:=s.b++χ (dn ops.toList) .dead}
  | false=>F
def Sr (r:B (Ex×St)) (f:St->B (Ex×St)):B (Ex×St):=
 match r with
 | some (.normal,s)=>f s
 | r=>r
def Um (id:D) (r:B (Ex×St)):B (Ex×St):=
 match r with
 | some (.exit i,s)=>if i=id then A (.normal,s) else A (.exit i,s)
 | r=>r
def Y8 (v:AV) (a b:B (Ex×St)):B (Ex×St):=
 match v with
 | .bool true=>a
 | .bool false=>b
 | _=>F
def exec (c:aD):D->Code->St->B (Ex×St)
 | 0,_,_=>F
 | n+1,code,s=>
  match code with
  | .skip=>A (.normal,s)
  | .label _=>A (.normal,s)
  | .ret=>A (.ret,s)
  | .exit id=>A (.exit id,s)
  | .seq a b=>Sr (exec c n a s) (exec c n b)
  | .cond x a b=>Y8 (ev s.t x) (exec c n a s) (exec c n b s)
  | .block id a=>Um id (exec c n a s)
  | .loop a=>Sr (exec c n a s) fun s'=>exec c n (.loop a) (s'.cut s.b.length)
  | .region _ ops draw=>(region c (D8 c (exec c n)) ops draw s).map (Ex.normal,·)
  | _=>F
def call (c:aD) (n:D):aQ:=D8 c (exec c n)
end Go.Am
namespace Go.Am
def uH (P:γ) (t:J):M:=
 !P.eqGuardType P.depth t&&match P.underlying t with
 | some (.struct fs)=> !P.stoodInHeld t&&fs.toList.all fun f=>f.name != "_"
 | _=>L
def fieldsOf (P:γ):ξ->C (J×D×D)
 | .struct fs=>fs.toList.map fun f=>(f.type,f.offset,((P.info? f.type).map (·.size)).getD 0)
 | _=> []
def xO (P:γ):ξ->M
 | .struct fs=>fs.toList.all fun f=>(P.info? f.type).isSome
 | _=>L
def G3:ξ->M
 | .struct _ | .array _ _=>L
 | _=>O
def P6:B I->M->M
 | none,_=>L
 | some (.agg _),b=>b
 | some (.tuple _),_=>O
 | some _,b=> !b
def P7 (P:γ) (t:J):B TI:=
 match P.info? t,P.underlying t with
 | some i,A d=>if xO P d=O\/P6 i.zero (G3 d)=O then F else A {desc:=d,size:=i.size,bytes:=i.bytes,zero:=i.zero.map fun z=>(gH z).cells,agg:=G3 d,eq:=uH P t,fields:=fieldsOf P d}
 | _,_=>F
def Tr.of {α:Type} (f:D->B α):D->(D->D)->Tr (B α)
 | 0,_=> .lf
 | d+1,g=> .nd (f (g 0)) (Tr.of f d (fun j=>g (2*j+1))) (Tr.of f d (fun j=>g (2*j+2)))
end Go.Am
namespace Go.Am
section
variable {α:Type}
theorem w9 {i j:D} (h:i≠j) (he:i%2=j%2):i / 2≠j / 2:=by omega
theorem Tr.bK (d v:α) (t:Tr α): ∀{i j:D},i≠j->(t.set i v).get d j=t.get d j:=by
 induction t with
 | lf=>intro i j _;rfl
 | nd x l r ę Ě=>
  intro i j h;cases i with
  | zero=>cases j with
   | zero=>exact ζ rfl h
   | succ j=>rfl
  | succ i=>
   have h':i≠j-1\/j=0:=by omega
   rcases K i with hi | hi <;> simp only [Tr.set,hi]
   ·cases j with
    | zero=>rfl
    | succ j=>rcases K j with hj | hj <;> simp only [Tr.get,hj];exact ę (w9 (by omega) (by omega))
   ·cases j with
    | zero=>rfl
    | succ j=>rcases K j with hj | hj <;> simp only [Tr.get,hj];exact Ě (w9 (by omega) (by omega))
theorem Tr.gp (v:α) (t:Tr α): ∀(i j:D),(t.set i v).has j=t.has j:=by
 induction t with
 | lf=>intro i j;rfl
 | nd x l r ę Ě=>
  intro i j;cases i with
  | zero=>cases j <;> rfl
  | succ i=>
   rcases K i with hi | hi <;> simp only [Tr.set,hi] <;> cases j with
   | zero=>rfl
   | succ j=>rcases K j with hj | hj <;> simp only [Tr.has,hj] <;> first | exact ę _ _ | exact Ě _ _
theorem Tr.ed (d v:α) (t:Tr α): ∀{i:D},t.has i=true->(t.set i v).get d i=v:=by
 induction t with
 | lf=>intro i h;cases h
 | nd x l r ę Ě=>
  intro i h;cases i with
  | zero=>rfl
  | succ i=>rcases K i with hi | hi <;> simp only [Tr.has,hi] at h <;> simp only [Tr.set,hi,Tr.get] <;> first | exact ę h | exact Ě h
theorem Tr.vG (d:α) (t:Tr α): ∀{i:D},t.has i=false->t.get d i=d:=by
 induction t with
 | lf=>intro i _;rfl
 | nd x l r ę Ě=>
  intro i h;cases i with
  | zero=>cases h
  | succ i=>rcases K i with hi | hi <;> simp only [Tr.has,hi] at h <;> simp only [Tr.get,hi] <;> first | exact ę h | exact Ě h
theorem Tr.MI (d:α): ∀(k n i:D),(Tr.mk d k n).has i=true->i<n:=by
 intro k
 induction k with
 | zero=>intro n i h;cases h
 | succ k ih=>
  intro n i h;cases n with
  | zero=>cases h
  | succ m=>
   cases i with
   | zero=>omega
   | succ i=>rcases K i with hi | hi <;> simp only [Tr.mk,Tr.has,hi] at h <;> have:=ih _ _ h <;> omega
theorem Tr.MJ (d:α): ∀(k n i:D),(Tr.mk d k n).get d i=d:=by
 intro k
 induction k with
 | zero=>intro n i;rfl
 | succ k ih=>
  intro n i;cases n with
  | zero=>rfl
  | succ m=>
   cases i with
   | zero=>rfl
   | succ i=>rcases K i with hi | hi <;> simp only [Tr.mk,Tr.get,hi] <;> exact ih _ _
theorem Tr.get_map {β:Type} (f:α->β) (d:α) (t:Tr α): ∀i,(t.map f).get (f d) i=f (t.get d i):=by
 induction t with
 | lf=>intro i;rfl
 | nd x l r ę Ě=>
  intro i;cases i with
  | zero=>rfl
  | succ i=>rcases K i with hi | hi <;> simp only [Tr.map,Tr.get,hi] <;> first | exact ę _ | exact Ě _
theorem Tr.sU {β:Type} (f:α->β) (t:Tr α): ∀i,(t.map f).has i=t.has i:=by
 induction t with
 | lf=>intro i;rfl
 | nd x l r ę Ě=>
  intro i;cases i with
  | zero=>rfl
  | succ i=>rcases K i with hi | hi <;> simp only [Tr.map,Tr.has,hi] <;> first | exact ę _ | exact Ě _
end
inductive GE where
 | no
 | var (b:D)
 | sl (n sz:D) (loc:B (D×D))
 | loop (b:D) (r:Loop)
 | mp (b:D)
def GE.bM:GE->B D
 | .no=>F
 | .var b=>A b
 | .sl _ _ loc=>loc.map (·.1)
 | .loop b _=>A b
 | .mp b=>A b
structure Gh where
 S:D->D->Prop
 e:D->GE
inductive GE.le:GE->GE->Prop where
 | no (x:GE):GE.le .no x
 | same (x:GE):GE.le x x
 | grown {n m sz:D} {l l':B (D×D)} (h:n<m):GE.le (.sl n sz l) (.sl m sz l')
theorem GE.le.trans {x y z:GE} (h:GE.le x y) (k:GE.le y z):GE.le x z:=by
 cases h with
 | no=>exact .no _
 | same=>exact k
 | grown h=>cases k with
  | same=>exact .grown h
  | grown h'=>exact .grown (Nat.lt_trans h h')
inductive Rd (g:Gh) (w:Q):AV->I->Prop where
 | any (v:I):Rd g w .any v
 | jZ (v:I) (h:v.oneCell'=L):Rd g w .jZ v
 | int (k:Β) (n:Int):Rd g w (.int k n) (.int k n)
 | bool (b:M):Rd g w (.bool b) (.bool b)
 | str (s:C Α):Rd g w (.str s) (.string ⟨s.toArray⟩)
 | agg (cs:C AV) (vs:R I) (hn:vs.size=É cs) (h: ∀(i:D) (c:AV) (v:I),cs[i]?=A c->vs[i]?=A v->Rd g w c v):Rd g w (.agg cs) (.agg vs)
 | aK (cs:C AV) (vs:R I) (hn:vs.size=É cs) (h: ∀(i:D) (c:AV) (v:I),cs[i]?=A c->vs[i]?=A v->Rd g w c v):Rd g w (.aK cs) (.tuple vs)
 | cn:Rd g w .cn (.pointer F)
 | ptr (k off b:D) (h:g.e k= .var b):Rd g w (.ptr k off) (.pointer (A ⟨b,off,F⟩))
 | cZ (k n i off m sz:D) (loc:B (D×D)) (v:I) (h1:v.oneCell'=L) (h:g.e k= .sl m sz loc) (hle:n<=m)
   (hv:n=m->(∃b cap,loc=A (b,cap)/\v= .pointer (A ⟨b,i*sz+off,F⟩))\/(loc=F/\n=0/\v= .pointer F)):Rd g w (.cZ k n i off) v
 | dB (cs:C AV) (b off:D) (Ă:D->I) (hp: ∀(j:D) (x:AV),cs[j]?=A x->x.plain=L/\g.S b (off+j)/\w.cell? ⟨b,off+j,F⟩=A (Ă j))
   (h: ∀(j:D) (x:AV),cs[j]?=A x->Rd g w x (Ă j)):Rd g w (.dB cs) (.pointer (A ⟨b,off,F⟩))
 | ah (nl:B M) (sz:D) (es:C AV) (a:B ώ) (cap b off:D) (Ă:D->D->I)
   (Ĉ: ∀x,nl=A x->a.isNone=x) (ĉ:a=none->es= []/\cap=0) (ą:É es<=cap) (ha:es≠ []->a=A ⟨b,off,F⟩)
   (hp: ∀(i:D) (e:AV),es[i]?=A e->e.plain=L/\e.cells.length=sz)
   (hc: ∀(i j:D) (e x:AV),es[i]?=A e->e.cells[j]?=A x->g.S b (off+i*sz+j)/\w.cell? ⟨b,off+i*sz+j,F⟩=A (Ă i j)/\(Ă i j).oneCell'=L)
   (h: ∀(i j:D) (e x:AV),es[i]?=A e->e.cells[j]?=A x->Rd g w x (Ă i j)):Rd g w (.ah nl sz es) (.slice a (É es) cap)
 | cG (nl:B M) (a:B ώ) (Ĉ: ∀x,nl=A x->a.isNone=x):Rd g w (.cG nl) (.slice a 0 0)
 | aC (k n m sz:D) (loc:B (D×D)) (v:I) (h1:v.oneCell'=L) (h:g.e k= .sl m sz loc) (hle:n<=m)
   (hv:n=m->(∃b cap,loc=A (b,cap)/\v= .slice (A ⟨b,0,F⟩) n cap)\/(loc=F/\n=0/\v= .slice F 0 0)):Rd g w (.aC k n) v
 | gO (k n lo hi m sz:D) (loc:B (D×D)) (v:I) (h1:v.oneCell'=L) (h:g.e k= .sl m sz loc) (hle:n<=m)
   (hv:n=m-> ∃b cap a,loc=A (b,cap)/\v= .slice (A a) (hi-lo) (cap-lo)/\(a=⟨b,lo*sz,F⟩\/cap=lo)):Rd g w (.gO k n lo hi) v
 | fn (f:υ) (cs ds:C AV) (vs us:R I) (hn:vs.size=É cs) (hm:us.size=É ds)
   (h: ∀(i:D) (c:AV) (v:I),cs[i]?=A c->vs[i]?=A v->Rd g w c v) (h': ∀(i:D) (c:AV) (v:I),ds[i]?=A c->us[i]?=A v->Rd g w c v):Rd g w (.fn f cs ds) (.func (.func f) vs us)
 | er:Rd g w .er .nilFunc
 | il (b:M) (v:I) (h:(b=O/\v= .nilIface)\/(b=L/\ ∃t p,v= .iface t p)):Rd g w (.il b) v
 | mG (t:J) (k:Β) (n:Int):Rd g w (.mG t k n) (.iface t (.int k n))
 | gG (k b:D) (s:Site) (env:C AV) (r:Loop) (h:g.e k= .loop b r) (hs:r.params=s.ps/\r.assign=s.asg/\r.body=s.body/\s.nt<=r.tmps.size)
   (he: ∀(j i:D) (x:AV),posOf s.keep j=A i->env[i]?=A x->Rd g w x (r.tmps.getD j undef)):Rd g w (.gG k s env) (.func (.yield b) #[] #[])
 | cg (k b:D) (h:g.e k= .mp b):Rd g w (.cg k) (.map (A b))
 | lU (k b:D) (h:g.e k= .mp b):Rd g w (.lU k) (.pointer (A ⟨b,0,F⟩))
 | iv:Rd g w .iv (.map F)
structure Le (g:Gh) (w:Q) (g':Gh) (w':Q):Prop where
 S: ∀b o,g.S b o->g'.S b o
 cell: ∀b o,g.S b o->w'.cell? ⟨b,o,F⟩=w.cell? ⟨b,o,F⟩
 e: ∀k,GE.le (g.e k) (g'.e k)
theorem Le.refl (g:Gh) (w:Q):Le g w g w:=⟨fun _ _ h=>h,fun _ _ _=>rfl,fun _=> .same _⟩
theorem Le.trans {g1 g2 g3:Gh} {w1 w2 w3:Q} (h:Le g1 w1 g2 w2) (k:Le g2 w2 g3 w3):Le g1 w1 g3 w3:=
 ⟨fun _ _ x=>k.S _ _ (h.S _ _ x),fun b o x=>(k.cell b o (h.S b o x)).trans (h.cell b o x),fun i=>(h.e i).trans (k.e i)⟩
theorem Rd.mono {g g':Gh} {w w':Q} (hl:Le g w g' w') {d:AV} {v:I} (h:Rd g w d v):Rd g' w' d v:=by
 induction h with
 | any v=>exact .any v
 | jZ v h=>exact .jZ v h
 | int k n=>exact .int k n
 | bool b=>exact .bool b
 | str s=>exact .str s
 | agg cs vs hn _ ih=>exact .agg cs vs hn ih
 | aK cs vs hn _ ih=>exact .aK cs vs hn ih
 | cn=>exact .cn
 | ptr k off b h=>have:=hl.e k;rw [h] at this;refine .ptr k off b ?_;generalize g'.e k=y at this;cases this;rfl
 | cZ k n i off m sz loc v h1 h hle hv=>
  have:=hl.e k;rw [h] at this;generalize hy:g'.e k=y at this;cases this with
  | same=>exact .cZ k n i off m sz loc v h1 hy hle hv
  | grown hlt=>exact .cZ k n i off _ sz _ v h1 hy (by omega) (fun e=>by omega)
 | dB cs b off Ă hp _ ih=>exact .dB cs b off Ă (fun j x hx=>⟨(hp j x hx).1,hl.S _ _ (hp j x hx).2.1,(hl.cell _ _ (hp j x hx).2.1).trans (hp j x hx).2.2⟩) ih
 | ah nl sz es a cap b off Ă Ĉ ĉ ą ha hp hc _ ih=>exact .ah nl sz es a cap b off Ă Ĉ ĉ ą ha hp (fun i j e x he hx=>⟨hl.S _ _ (hc i j e x he hx).1,(hl.cell _ _ (hc i j e x he hx).1).trans (hc i j e x he hx).2.1,(hc i j e x he hx).2.2⟩) ih
 | cG nl a h=>exact .cG nl a h
 | aC k n m sz loc v h1 h hle hv=>
  have:=hl.e k;rw [h] at this;generalize hy:g'.e k=y at this;cases this with
  | same=>exact .aC k n m sz loc v h1 hy hle hv
  | grown hlt=>exact .aC k n _ sz _ v h1 hy (by omega) (fun e=>by omega)
 | gO k n lo hi m sz loc v h1 h hle hv=>
  have:=hl.e k;rw [h] at this;generalize hy:g'.e k=y at this;cases this with
  | same=>exact .gO k n lo hi m sz loc v h1 hy hle hv
  | grown hlt=>exact .gO k n lo hi _ sz _ v h1 hy (by omega) (fun e=>by omega)
 | fn f cs ds vs us hn hm _ _ ih Ĭ=>exact .fn f cs ds vs us hn hm ih Ĭ
 | er=>exact .er
 | il b v h=>exact .il b v h
 | mG t k n=>exact .mG t k n
 | gG k b s env r h hs _ ih=>have:=hl.e k;rw [h] at this;refine .gG k b s env r ?_ hs ih;generalize g'.e k=y at this;cases this;rfl
 | cg k b h=>have:=hl.e k;rw [h] at this;refine .cg k b ?_;generalize g'.e k=y at this;cases this;rfl
 | lU k b h=>have:=hl.e k;rw [h] at this;refine .lU k b ?_;generalize g'.e k=y at this;cases this;rfl
 | iv=>exact .iv
theorem bZ: ∀{cs:C AV} {i:D} {c:AV},ak cs=true->cs[i]?=A c->c.plain=L
 | [],i,c,_,h=>by cases h
 | v::r,0,c,hp,h=>by simp only [ak,N] at hp;simp at h;rw [<-h];exact hp.1
 | v::r,i+1,c,hp,h=>by simp only [ak,N] at hp;simp at h;exact bZ hp.2 h
theorem fK {n:D}: ∀{cs:C AV} {i:D} {c:AV},aA n cs=true->cs[i]?=A c->c.under n=L
 | [],i,c,_,h=>by cases h
 | v::r,0,c,hp,h=>by simp only [aA,N] at hp;simp at h;rw [<-h];exact hp.1
 | v::r,i+1,c,hp,h=>by simp only [aA,N] at hp;simp at h;exact fK hp.2 h
theorem jj: ∀{cs:C AV} {i:D} {c:AV},flatAll cs=true->cs[i]?=A c->c.flat=L
 | [],i,c,_,h=>by cases h
 | v::r,0,c,hp,h=>by simp only [flatAll,N] at hp;simp at h;rw [<-h];exact hp.1
 | v::r,i+1,c,hp,h=>by simp only [flatAll,N] at hp;simp at h;exact jj hp.2 h
theorem Rd.aT {g g':Gh} {w w':Q} (hS: ∀b o,g.S b o->g'.S b o) (hc: ∀b o,g.S b o->w'.cell? ⟨b,o,F⟩=w.cell? ⟨b,o,F⟩) {d:AV} {v:I} (h:Rd g w d v):
  d.plain=true->Rd g' w' d v:=by
 induction h with
 | any v=>exact fun _=> .any v
 | jZ v h=>exact fun _=> .jZ v h
 | int k n=>exact fun _=> .int k n
 | bool b=>exact fun _=> .bool b
 | str s=>exact fun _=> .str s
 | agg cs vs hn _ ih=>exact fun hp=> .agg cs vs hn (fun i c v hc hv=>ih i c v hc hv (bZ (by simpa only [AV.plain] using hp) hc))
 | aK cs vs hn _ ih=>exact fun hp=> .aK cs vs hn (fun i c v hc hv=>ih i c v hc hv (bZ (by simpa only [AV.plain] using hp) hc))
 | cn=>exact fun _=> .cn
 | ptr k off b h=>intro hp;simp [AV.plain] at hp
 | cZ k n i off m sz loc v h1 h hle hv=>intro hp;simp [AV.plain] at hp
 | dB cs b off Ă hp _ ih=>exact fun _=> .dB cs b off Ă (fun j x hx=>⟨(hp j x hx).1,hS _ _ (hp j x hx).2.1,(hc _ _ (hp j x hx).2.1).trans (hp j x hx).2.2⟩) (fun j x hx=>ih j x hx (hp j x hx).1)
 | ah nl sz es a cap b off Ă Ĉ ĉ ą ha hp ĭ _ ih=>
  refine fun _=> .ah nl sz es a cap b off Ă Ĉ ĉ ą ha hp (fun i j e x he hx=>⟨hS _ _ (ĭ i j e x he hx).1,(hc _ _ (ĭ i j e x he hx).1).trans (ĭ i j e x he hx).2.1,(ĭ i j e x he hx).2.2⟩) (fun i j e x he hx=>ih i j e x he hx ?_);have:=(hp i e he).1
  cases e <;> simp only [AV.cells] at hx <;> first
   | (simp only [AV.plain] at this;exact bZ this hx)
   | (cases j with
      | zero => simp at hx; rw [<- hx]; exact this
      | succ j => simp at hx)
 | cG nl a h=>exact fun _=> .cG nl a h
 | aC k n m sz loc v h1 h hle hv=>intro hp;simp [AV.plain] at hp
 | gO k n lo hi m sz loc v h1 h hle hv=>intro hp;simp [AV.plain] at hp
 | fn f cs ds vs us hn hm _ _ ih Ĭ=>intro hp;simp only [AV.plain,N] at hp;exact .fn f cs ds vs us hn hm (fun i c v hc hv=>ih i c v hc hv (bZ hp.1 hc)) (fun i c v hc hv=>Ĭ i c v hc hv (bZ hp.2 hc))
 | er=>exact fun _=> .er
 | il b v h=>exact fun _=> .il b v h
 | mG t k n=>exact fun _=> .mG t k n
 | gG k b s env r h hs _ _=>intro hp;simp [AV.plain] at hp
 | cg k b h=>intro hp;simp [AV.plain] at hp
 | lU k b h=>intro hp;simp [AV.plain] at hp
 | iv=>exact fun _=> .iv
theorem Rd.of_flat {g g':Gh} {w w':Q} {d:AV} {v:I} (h:Rd g w d v):d.flat=true->Rd g' w' d v:=by
 induction h with
 | any v=>exact fun _=> .any v
 | jZ v h=>exact fun _=> .jZ v h
 | int k n=>exact fun _=> .int k n
 | bool b=>exact fun _=> .bool b
 | str s=>exact fun _=> .str s
 | agg cs vs hn _ ih=>exact fun hp=> .agg cs vs hn (fun i c v hc hv=>ih i c v hc hv (jj (by simpa only [AV.flat] using hp) hc))
 | aK cs vs hn _ ih=>exact fun hp=> .aK cs vs hn (fun i c v hc hv=>ih i c v hc hv (jj (by simpa only [AV.flat] using hp) hc))
 | cn=>exact fun _=> .cn
 | ptr k off b h=>intro hp;simp [AV.flat] at hp
 | cZ k n i off m sz loc v h1 h hle hv=>intro hp;simp [AV.flat] at hp
 | dB cs b off Ă hp _ ih=>intro hp;simp [AV.flat] at hp
 | ah nl sz es a cap b off Ă Ĉ ĉ ą ha hp ĭ _ ih=>intro hp;simp [AV.flat] at hp
 | cG nl a h=>intro hp;simp [AV.flat] at hp
 | aC k n m sz loc v h1 h hle hv=>intro hp;simp [AV.flat] at hp
 | gO k n lo hi m sz loc v h1 h hle hv=>intro hp;simp [AV.flat] at hp
 | fn f cs ds vs us hn hm _ _ ih Ĭ=>intro hp;simp only [AV.flat,N] at hp;exact .fn f cs ds vs us hn hm (fun i c v hc hv=>ih i c v hc hv (jj hp.1 hc)) (fun i c v hc hv=>Ĭ i c v hc hv (jj hp.2 hc))
 | er=>exact fun _=> .er
 | il b v h=>exact fun _=> .il b v h
 | mG t k n=>exact fun _=> .mG t k n
 | gG k b s env r h hs _ _=>intro hp;simp [AV.flat] at hp
 | cg k b h=>intro hp;simp [AV.flat] at hp
 | lU k b h=>intro hp;simp [AV.flat] at hp
 | iv=>exact fun _=> .iv
def Gh.cut (g:Gh) (n:D):Gh:={S:=g.S,e:=fun k=>if k<n then g.e k else .no}
theorem Rd.cut {g:Gh} {w:Q} (n:D) {d:AV} {v:I} (h:Rd g w d v):d.under n=true->Rd (g.cut n) w d v:=by
 induction h with
 | any v=>exact fun _=> .any v
 | jZ v h=>exact fun _=> .jZ v h
 | int k n=>exact fun _=> .int k n
 | bool b=>exact fun _=> .bool b
 | str s=>exact fun _=> .str s
 | agg cs vs hn _ ih=>exact fun hp=> .agg cs vs hn (fun i c v hc hv=>ih i c v hc hv (fK (by simpa only [AV.under] using hp) hc))
 | aK cs vs hn _ ih=>exact fun hp=> .aK cs vs hn (fun i c v hc hv=>ih i c v hc hv (fK (by simpa only [AV.under] using hp) hc))
 | cn=>exact fun _=> .cn
 | ptr k off b h=>intro hp;simp [AV.under] at hp;exact .ptr k off b (by simp [Gh.cut,hp,h])
 | cZ k n i off m sz loc v h1 h hle hv=>intro hp;simp [AV.under] at hp;exact .cZ k n i off m sz loc v h1 (by simp [Gh.cut,hp,h]) hle hv
 | dB cs b off Ă hp h _=>exact fun _=> .dB cs b off Ă hp (fun j x hx=>(h j x hx).aT (g:=g) (g':=g.cut n) (w:=w) (w':=w) (fun _ _ h=>h) (fun _ _ _=>rfl) (hp j x hx).1)
 | ah nl sz es a cap b off Ă Ĉ ĉ ą ha hp ĭ h ih=>intro _;exact (Rd.ah nl sz es a cap b off Ă Ĉ ĉ ą ha hp ĭ h).aT (g:=g) (g':=g.cut n) (w:=w) (w':=w) (fun _ _ h=>h) (fun _ _ _=>rfl) rfl
 | cG nl a h=>exact fun _=> .cG nl a h
 | aC k n m sz loc v h1 h hle hv=>intro hp;simp [AV.under] at hp;exact .aC k n m sz loc v h1 (by simp [Gh.cut,hp,h]) hle hv
 | gO k n lo hi m sz loc v h1 h hle hv=>intro hp;simp [AV.under] at hp;exact .gO k n lo hi m sz loc v h1 (by simp [Gh.cut,hp,h]) hle hv
 | fn f cs ds vs us hn hm _ _ ih Ĭ=>intro hp;simp only [AV.under,N] at hp;exact .fn f cs ds vs us hn hm (fun i c v hc hv=>ih i c v hc hv (fK hp.1 hc)) (fun i c v hc hv=>Ĭ i c v hc hv (fK hp.2 hc))
 | er=>exact fun _=> .er
 | il b v h=>exact fun _=> .il b v h
 | mG t k n=>exact fun _=> .mG t k n
 | gG k b s env r h hs _ ih=>intro hp;simp only [AV.under,N,decide_eq_true_eq] at hp;exact .gG k b s env r (by simp [Gh.cut,hp.1,h]) hs (fun j i x hj hx=>ih j i x hj hx (fK hp.2 hx))
 | cg k b h=>intro hp;simp [AV.under] at hp;exact .cg k b (by simp [Gh.cut,hp,h])
 | lU k b h=>intro hp;simp [AV.under] at hp;exact .lU k b (by simp [Gh.cut,hp,h])
 | iv=>exact fun _=> .iv
theorem Rd.one {g:Gh} {w:Q} {d:AV} {v:I} (h:Rd g w d v) (hd:d.cO=L):v.oneCell'=true:=by cases h <;> first | rfl | assumption | (simp [AV.cO] at hd;done) | (rename_i h;rcases h with ⟨_,rfl⟩ | ⟨_,_,_,rfl⟩ <;> rfl)
theorem Rd.forget {g:Gh} {w:Q} (n:D) {d:AV} {v:I} (h:Rd g w d v):Rd (g.cut n) w (forget n d) v:=by
 unfold Am.forget;cases hu:d.under n with
 | true=>exact h.cut n hu
 | false=>exact .any v
end Go.Am
namespace Go.Am
theorem eT {w:Q} {b:D} {c:R I} {ty:J} {fz:D×D} (h:w.heap[b]?=A (.cells c ty fz)) (o:D):w.cell? ⟨b,o,F⟩=c[o]?:=by simp [World.cell?,h]
theorem addr_add (b o n:D):(⟨b,o,F⟩:ώ).add n=⟨b,o+n,F⟩:=by unfold Addr.add;split <;> simp_all
def MK (c:R I) (fz:D×D):Prop:= ∀o,o<c.size-> ¬ (fz.1<=o/\o<fz.2)
def jk (n:D) (c:R I) (fz:D×D):Prop:= ∀o,n<=o->o<c.size-> ¬ (fz.1<=o/\o<fz.2)
theorem MK.from {c:R I} {fz:D×D} (h:MK c fz) (n:D):jk n c fz:=fun o _ ho=>h o ho
theorem rN {w:Q} {b:D} {c:R I} {ty:J} {fz:D×D} (h:w.heap[b]?=A (.cells c ty fz)) {n:D} (hf:jk n c fz) {o:D} (ħ:n<=o) (ho:o<c.size):w.frozen? ⟨b,o,F⟩=false:=by obtain ⟨lo,hi⟩:=fz;have:=hf o ħ ho;simp only [World.frozen?,h];simp only [Bool.and_eq_false_iff,decide_eq_false_iff_not];omega
theorem fL (P:γ) (g o:D) (t:J) (fz:D×D): ∀(vs:C I) (i:D) (cur:R I) (w:Q),w.heap[g]?=A (.cells cur t fz)->jk o cur fz->o+i+É vs<=cur.size->(∀v∈vs,v.oneCell'=L)->
  (storeCells ⟨g,o,F⟩ vs i).run P w= .ok () (w.setRow g (cur.toList.take (o+i)++vs++cur.toList.drop (o+i+É vs)).toArray)
 | [],i,cur,w,hg,_,_,_=>by
  simp only [storeCells,List.append_nil,Η,Nat.add_zero,List.take_append_drop,Array.toArray_toList];rw [setRow_self w g cur t fz hg];rfl
 | v::rest,i,cur,w,hg,œ,hl,h1=>by
  have hi:o+i<cur.size:=by simp at hl;omega
  have č:w.cell? ⟨g,o+i,F⟩=A cur[o+i]:=by simp [World.cell?,hg,hi]
  have ņ:=rN hg œ (Nat.le_add_right o i) hi
  have hst:(store ((⟨g,o,F⟩:ώ).add i) v).run P w= .ok () (w.setRow g (cur.setIfInBounds (o+i) v)):=by rw [addr_add,run_store P w _ v _ (h1 v (by simp)),č];simp [ņ,setCell_eq_setRow w g (o+i) cur t fz v hg]
  have ih:=fL P g o t fz rest (i+1) (cur.setIfInBounds (o+i) v) (w.setRow g (cur.setIfInBounds (o+i) v)) (setRow_heap w g cur _ t _ hg) (fun o ħ ho=>œ o ħ (by simpa using ho)) (by simp at hl⊢;omega) (fun x hx=>h1 x (by simp [hx]));simp only [storeCells,Sem.run_bind,hst,Result.andThen_ok,ih,setRow_setRow];congr 3;have e:=list_seg_step cur.toList (o+i) v rest (by simp at hl⊢;omega);simpa [Array.toList_setIfInBounds,σ] using e
def uI (g:Gh) (w:Q) (ty:J) (b:D) (cs:C AV):Prop:=
 ∃(c:R I),w.heap[b]?=A (.cells c ty (0,0))/\c.size=É cs/\ ∀(j:D) (x:AV) (v:I),cs[j]?=A x->c[j]?=A v->Rd g w x v
def oC (g:Gh) (w:Q) (sh:Hd) (sz:D) (es:C AV) (b cap:D):Prop:=
 ∃(c:R I) (ty:J) (fz:D×D),w.heap[b]?=A (.cells c ty fz)/\c.size=cap*sz/\max 1 (É es)<=cap/\(∀t,sh.ty=A t->t=ty/\jk (if sh.out then (É es)*sz else 0) c fz)/\
  (∀(i j:D) (e x:AV) (v:I),es[i]?=A e->e.cells[j]?=A x->c[i*sz+j]?=A v->Rd g w x v/\v.oneCell'=L)/\(sh.out=true-> ∀o,o<É es*sz->g.S b o)/\
  (∀i j k' n,sh.link=A (i,j,k',n)-> ∀v,c[i*sz+j]?=A v->i<É es->Rd g w (.aC k' n) v)
def mL (g:Gh) (w:Q) (sh:Hd) (sz:D) (es:C AV) (loc:B (D×D)):Prop:=
 (∀(i:D) (e:AV),es[i]?=A e->e.plain=L/\e.cells.length=sz)/\
 match loc with
 | none=>es= []
 | some (b,cap)=>oC g w sh sz es b cap
def Ex.code:Ex->Code
 | .normal=> .skip
 | .ret=> .ret
 | .exit i=> .exit i
def Uk.record (r:Loop):Uk->Loop
 | .ready=>{r with state:= .ready,pending:=none}
 | .busy=>{r with state:= .busy,pending:=none}
 | .done e=>{r with state:= .done,pending:=some e.code}
class Kn where
 ks:C (D×Obj)
 cells: ∀p∈ks,∃c t z,p.2= .cells c t z
variable [Kn]
theorem Ku {k:AV} (h:fY k=L):k.plain=true:=by
 have one: ∀{v:AV},fk v=true->v.plain=true:=fun {v} h=>by
  cases v <;> simp only [fk,ψ] at h <;> rfl
 cases k with
 | agg cs=>
  simp only [fY] at h;simp only [AV.plain]
  induction cs with
  | nil=>rfl
  | cons v r ih=>simp only [List.all_cons,N] at h;simp only [ak,N];exact ⟨one h.1,ih h.2⟩
 | _=>exact one h
def Ar (g:Gh) (w:Q) (b:D) (es:C (AV×AV×D)) (clock:D):Prop:=
 ∃ents:R MapEntry,w.heap[b]?=A (.map ents clock)/\ents.size=É es/\ ∀(i:D) (e:AV×AV×D) (m:MapEntry),es[i]?=A e->ents[i]?=A m->(fY e.1=L/\Rd g w e.1 m.key)/\(gE e.2.1=L/\Rd g w e.2.1 m.val)/\m.born=e.2.2/\m.born<clock
def o5 (g:Gh) (w:Q) (k:D) (o:Y5) (b:D):Prop:=
 match o with
 | .str s pos=>w.heap[b]?=A (.stringIter ⟨s.toArray⟩ pos)
 | .map m seen clock=>m<k/\ ∃bm,g.e m= .mp bm/\w.heap[b]?=A (.mapIter (A bm) clock seen.toArray clock)
omit [Kn] in
theorem o5.lt {g:Gh} {w:Q} {k b:D} {o:Y5} (h:o5 g w k o b):b<w.heap.size:=by
 have one: ∀{o:Obj},w.heap[b]?=A o->b<w.heap.size:=fun {o} h=>by
  rcases μ b w.heap.size with h' | h'
  ·exact h'
  ·rw [Ε h'] at h;cases h
 cases o with
 | str s pos=>exact one h
 | map m seen clock=>obtain ⟨_,bm,_,h3⟩:=h;exact one h3
omit [Kn] in
theorem o5.mono {g g':Gh} {w w':Q} {k b:D} {o:Y5} (hg: ∀j c,j<k->g.e j= .mp c->g'.e j= .mp c) (hh:w'.heap[b]?=w.heap[b]?) (h:o5 g w k o b):o5 g' w' k o b:=by
 cases o with
 | str s pos=>exact hh.trans h
 | map m seen clock=>obtain ⟨h1,bm,h2,h3⟩:=h;exact ⟨h1,bm,hg _ _ h1 h2,hh.trans h3⟩
omit [Kn] in
theorem Y9 {x y:GE} {b:D} (h:GE.le x y) (hx:x= .mp b):y= .mp b:=by subst hx;cases h;rfl
omit [Kn] in
theorem o5.le {g g':Gh} {w w':Q} {k b:D} {o:Y5} (hl:Le g w g' w') (hh:w'.heap[b]?=w.heap[b]?) (h:o5 g w k o b):o5 g' w' k o b:=
 h.mono (fun j _ _ hj=>Y9 (hl.e j) hj) hh
structure Mem (g:Gh) (bs:C af) (w:Q):Prop where
 no: ∀k,af.at bs k= .dead->g.e k= .no
 var: ∀k ty cs,af.at bs k= .var ty cs-> ∃b,g.e k= .var b/\uI g w ty b cs
 sl: ∀k sh sz es,af.at bs k= .sl sh sz es-> ∃loc,g.e k= .sl (É es) sz loc/\mL g w sh sz es loc
 loop: ∀k st,af.at bs k= .loop st-> ∃b r,g.e k= .loop b r/\w.heap[b]?=A (.loop (st.record r))
 mp: ∀k es clock,af.at bs k= .mp es clock-> ∃b,g.e k= .mp b/\Ar g w b es clock
 gone: ∀k,af.at bs k= .gone-> ∃m sz,g.e k= .sl m sz F
 it: ∀k o,af.at bs k= .iter o-> ∃b,g.e k= .mp b/\o5 g w k o b
 inj: ∀k l b,(g.e k).bM=A b->(g.e l).bM=A b->k=l
 dh: ∀b o,g.S b o->b<w.heap.size/\ ∀k,(g.e k).bM=A b-> ∃ty sz es,af.at bs k= .sl ⟨L,ty,F⟩ sz es/\o<É es*sz
 kn: ∀p∈Kn.ks,w.heap[p.1]?=A p.2/\ ∀k,(g.e k).bM≠A p.1
theorem bV {w:Q} {b:D} {o:Obj} (h:w.heap[b]?=A o):b<w.heap.size:=by
 rcases μ b w.heap.size with h' | h'
 ·exact h'
 ·rw [Ε h'] at h;cases h
theorem Mem.cR {g:Gh} {bs:C af} {w:Q} (h:Mem g bs w) {k b:D} (hb:(g.e k).bM=A b):b<w.heap.size:=by
 cases hk:af.at bs k with
 | dead=>rw [h.no k hk] at hb;cases hb
 | var ty cs=>obtain ⟨b',he,c,hh,_⟩:=h.var k ty cs hk;rw [he] at hb;simp only [GE.bM,H] at hb;subst hb;exact bV hh
 | sl sh sz es=>
  obtain ⟨loc,he,_,hr⟩:=h.sl k sh sz es hk;rw [he] at hb;cases loc with
  | none=>cases hb
  | some p=>obtain ⟨b',cap⟩:=p;obtain ⟨c,ty,fz,hh,_⟩:=hr;simp only [GE.bM,T,H] at hb;subst hb;exact bV hh
 | loop st=>obtain ⟨b',r,he,hh⟩:=h.loop k st hk;rw [he] at hb;simp only [GE.bM,H] at hb;subst hb;exact bV hh
 | mp es clock=>obtain ⟨b',he,ents,hh,_⟩:=h.mp k es clock hk;rw [he] at hb;simp only [GE.bM,H] at hb;subst hb;exact bV hh
 | gone=>obtain ⟨m,sz,he⟩:=h.gone k hk;rw [he] at hb;cases hb
 | iter o=>obtain ⟨b',he,hh⟩:=h.it k o hk;rw [he] at hb;simp only [GE.bM,H] at hb;subst hb;exact hh.lt
structure Fr (g:Gh) (w:Q) (g':Gh) (w':Q):Prop where
 size:w.heap.size<=w'.heap.size
 frame: ∀b,b<w.heap.size->(∀k,(g.e k).bM≠A b)->w'.heap[b]?=w.heap[b]?/\(∀k,(g'.e k).bM≠A b)/\ ∀o,g'.S b o->g.S b o
 os:w'.os=w.os
 tape:w'.tape=w.tape
 output:w'.output=w.output
theorem Mem.Cw {g g':Gh} {bs:C af} {w w':Q} (h:Mem g bs w) (Ā: ∀b,b<w.heap.size->w'.heap[b]?=w.heap[b]?) (hk: ∀k b,(g'.e k).bM=A b->(g.e k).bM=A b\/w.heap.size<=b): ∀p∈Kn.ks,w'.heap[p.1]?=A p.2/\ ∀k,(g'.e k).bM≠A p.1:=fun p hp=>by
 obtain ⟨h1,h2⟩:=h.kn p hp;have hlt:=bV h1;refine ⟨(Ā _ hlt).trans h1,fun k hb=> ?_⟩;rcases hk k _ hb with h3 | h3
 ·exact h2 k h3
 ·omega
theorem Fr.refl (g:Gh) (w:Q):Fr g w g w:=⟨W _,fun _ _ h=>⟨rfl,h,fun _ h=>h⟩,rfl,rfl,rfl⟩
theorem Fr.trans {g1 g2 g3:Gh} {w1 w2 w3:Q} (h:Fr g1 w1 g2 w2) (k:Fr g2 w2 g3 w3):Fr g1 w1 g3 w3:=
 ⟨Ξ h.size k.size,fun b hb hn=>
  let ⟨e1,n1,s1⟩:=h.frame b hb hn
  let ⟨e2,n2,s2⟩:=k.frame b (ν hb h.size) n1
  ⟨e2.trans e1,n2,fun o ho=>s1 o (s2 o ho)⟩,k.os.trans h.os,k.tape.trans h.tape,k.output.trans h.output⟩
theorem uI.mono {g g':Gh} {w w':Q} {ty:J} {b:D} {cs:C AV} (hl:Le g w g' w') (hh:w'.heap[b]?=w.heap[b]?) (h:uI g w ty b cs):uI g' w' ty b cs:=
 let ⟨c,h1,h2,h4⟩:=h
 ⟨c,hh.trans h1,h2,fun j x v hx hv=>(h4 j x v hx hv).mono hl⟩
theorem Ar.mono {g g':Gh} {w w':Q} {b:D} {es:C (AV×AV×D)} {clock:D} (hl:Le g w g' w') (hh:w'.heap[b]?=w.heap[b]?) (h:Ar g w b es clock):Ar g' w' b es clock:=
 let ⟨ents,h1,h2,h3⟩:=h
 ⟨ents,hh.trans h1,h2,fun i e m he hm=>let ⟨⟨k1,k2⟩,⟨k3,k4⟩,k5⟩:=h3 i e m he hm;⟨⟨k1,k2.mono hl⟩,⟨k3,k4.mono hl⟩,k5⟩⟩
theorem mL.mono {g g':Gh} {w w':Q} {sh:Hd} {sz:D} {es:C AV} {loc:B (D×D)} (hl:Le g w g' w') (hh: ∀p,loc=A p->w'.heap[p.1]?=w.heap[p.1]?) (h:mL g w sh sz es loc):mL g' w' sh sz es loc:=by
 refine ⟨h.1,?_⟩;cases loc with
 | none=>exact h.2
 | some p=>obtain ⟨b,cap⟩:=p;obtain ⟨c,ty,fz,h1,h2,h3,h4,h5,h6,h7⟩:=h.2;exact ⟨c,ty,fz,(hh _ rfl).trans h1,h2,h3,h4,fun i j e x v he hx hv=>⟨(h5 i j e x v he hx hv).1.mono hl,(h5 i j e x v he hx hv).2⟩,fun hs o ho=>hl.S _ _ (h6 hs o ho),fun i j k' n hk v hv hi=>(h7 i j k' n hk v hv hi).mono hl⟩
omit [Kn] in
theorem bO (bs:C af) (k:D) (x:af) (hk:k<É bs) (j:D):af.at (bs.set k x) j=if k=j then x else af.at bs j:=by
 simp only [af.at,X,Γ];split
 ·rename_i h;subst h;first | simp | simp [hk]
 ·rfl
omit [Kn] in
theorem fA {bs:C af} {k:D} (h:af.at bs k≠ .dead):k<É bs:=by
 rcases μ k (É bs) with h' | h'
 ·exact h'
 ·simp [af.at,X,V h'] at h
def Gh.put (g:Gh) (k:D) (x:GE):Gh:={S:=g.S,e:=fun j=>if k=j then x else g.e j}
theorem Gh.cy (g:Gh) (k:D) (x:GE):(g.put k x).e k=x:=by simp [Gh.put]
theorem Gh.ca (g:Gh) {k j:D} (x:GE) (h:k≠j):(g.put k x).e j=g.e j:=by simp [Gh.put,h]
theorem xP {g:Gh} {w w':Q} {k:D} {x:GE} (hx:GE.le (g.e k) x) (hc: ∀b o,g.S b o->w'.cell? ⟨b,o,F⟩=w.cell? ⟨b,o,F⟩):Le g w (g.put k x) w':=
 ⟨fun _ _ h=>h,hc,fun j=>by
  by_cases h:k=j
  ·subst h;rw [Gh.cy];exact hx
  ·rw [Gh.ca _ _ h];exact .same _⟩
theorem cJ (w:Q) (o:Obj) {b:D} (h:b<w.heap.size):(w.alloc o).heap[b]?=w.heap[b]?:=by show (w.heap.push o)[b]?=_;rw [Array.getElem?_push,U (Nat.ne_of_lt h)]
theorem dH (w:Q) (o:Obj):(w.alloc o).heap[w.heap.size]?=A o:=by show (w.heap.push o)[w.heap.size]?=_;simp
theorem cr {w w':Q} {b:D} (h:w'.heap[b]?=w.heap[b]?) (o:D):w'.cell? ⟨b,o,F⟩=w.cell? ⟨b,o,F⟩:=by simp [World.cell?,h]
theorem Mem.new {g:Gh} {bs:C af} {w w':Q} {id:D} {x:af} {ge:GE} (h:Mem g bs w) (hid:id<É bs) (hd:af.at bs id= .dead)
  (Ā: ∀b,b<w.heap.size->w'.heap[b]?=w.heap[b]?) (Ć:w.heap.size<=w'.heap.size) (ă: ∀b,ge.bM=A b->w.heap.size<=b)
  (hx:x≠ .dead) (hv: ∀ty cs,x= .var ty cs-> ∃b,ge= .var b/\uI (g.put id ge) w' ty b cs)
  (hs: ∀sh sz es,x= .sl sh sz es-> ∃loc,ge= .sl (É es) sz loc/\mL (g.put id ge) w' sh sz es loc)
  (Ď: ∀st,x= .loop st-> ∃b r,ge= .loop b r/\w'.heap[b]?=A (.loop (st.record r)):=by intro _ h;cases h)
  (Ň: ∀es clock,x= .mp es clock-> ∃b,ge= .mp b/\Ar (g.put id ge) w' b es clock:=by intro _ _ h;cases h)
  (hgo:x= .gone-> ∃m sz,ge= .sl m sz none:=by intro h;cases h)
  (hit: ∀o,x= .iter o-> ∃b,ge= .mp b/\o5 (g.put id ge) w' id o b:=by intro _ h;cases h):
  Mem (g.put id ge) (bs.set id x) w'/\Le g w (g.put id ge) w':=by
 have ħ:=h.no id hd;have č: ∀b o,g.S b o->w'.cell? ⟨b,o,F⟩=w.cell? ⟨b,o,F⟩:=fun b o hb=>cr (Ā b (h.dh b o hb).1) o;have hl:Le g w (g.put id ge) w':=xP (by rw [ħ];exact .no _) č;have ā: ∀k b,k≠id->((g.put id ge).e k).bM=A b->(g.e k).bM=A b:=fun k b hk hb=>by rwa [Gh.ca _ _ (Ne.symm hk)] at hb
 have ň:=h.Cw (g':=g.put id ge) Ā (fun k b hb=>by
  by_cases ek:k=id
  ·subst ek;rw [Gh.cy] at hb;exact .inr (ă b hb)
  ·exact .inl (ā k b ek hb))
 refine ⟨⟨fun k hk=> ?_,fun k ty cs hk=> ?_,fun k sh sz es hk=> ?_,fun k st hk=> ?_,fun k es clock hk=> ?_,fun k hk=> ?_,fun k o hk=> ?_,fun k l b hk Đ=> ?_,fun b o hb=> ?_,ň⟩,hl⟩
 ·rw [bO _ _ _ hid] at hk;by_cases e:id=k
  ·rw [Y e] at hk;exact ζ hk hx
  ·rw [U e] at hk;rw [Gh.ca _ _ e];exact h.no k hk
 ·rw [bO _ _ _ hid] at hk;by_cases e:id=k
  ·subst e;rw [Y rfl] at hk;rw [Gh.cy];exact hv ty cs hk
  ·rw [U e] at hk;obtain ⟨b,he,hr⟩:=h.var k ty cs hk;exact ⟨b,by rw [Gh.ca _ _ e];exact he,hr.mono hl (Ā b (h.cR (k:=k) (by rw [he];rfl)))⟩
 ·rw [bO _ _ _ hid] at hk;by_cases e:id=k
  ·subst e;rw [Y rfl] at hk;rw [Gh.cy];exact hs sh sz es hk
  ·rw [U e] at hk;obtain ⟨loc,he,hr⟩:=h.sl k sh sz es hk;exact ⟨loc,by rw [Gh.ca _ _ e];exact he,hr.mono hl (fun p hp=>Ā p.1 (h.cR (k:=k) (by rw [he,hp];rfl)))⟩
 ·rw [bO _ _ _ hid] at hk;by_cases e:id=k
  ·subst e;rw [Y rfl] at hk;rw [Gh.cy];exact Ď st hk
  ·rw [U e] at hk;obtain ⟨b,r,he,hr⟩:=h.loop k st hk;exact ⟨b,r,by rw [Gh.ca _ _ e];exact he,(Ā b (h.cR (k:=k) (by rw [he];rfl))).trans hr⟩
 ·rw [bO _ _ _ hid] at hk;by_cases e:id=k
  ·subst e;rw [Y rfl] at hk;rw [Gh.cy];exact Ň es clock hk
  ·rw [U e] at hk;obtain ⟨b,he,hr⟩:=h.mp k es clock hk;exact ⟨b,by rw [Gh.ca _ _ e];exact he,hr.mono hl (Ā b (h.cR (k:=k) (by rw [he];rfl)))⟩
 ·rw [bO _ _ _ hid] at hk;by_cases e:id=k
  ·subst e;rw [Y rfl] at hk;rw [Gh.cy];exact hgo hk
  ·rw [U e] at hk;rw [Gh.ca _ _ e];exact h.gone k hk
 ·rw [bO _ _ _ hid] at hk;by_cases e:id=k
  ·subst e;rw [Y rfl] at hk;rw [Gh.cy];exact hit o hk
  ·rw [U e] at hk;obtain ⟨b,he,hr⟩:=h.it k o hk;exact ⟨b,by rw [Gh.ca _ _ e];exact he,hr.le hl (Ā b (h.cR (k:=k) (by rw [he];rfl)))⟩
 ·by_cases ek:k=id <;> by_cases el:l=id
  ·rw [ek,el]
  ·subst ek;rw [Gh.cy] at hk;have:=ă b hk;have:=h.cR (ā l b el Đ);omega
  ·subst el;rw [Gh.cy] at Đ;have:=ă b Đ;have:=h.cR (ā k b ek hk);omega
  ·exact h.inj k l b (ā k b ek hk) (ā l b el Đ)
 ·obtain ⟨h1,h2⟩:=h.dh b o hb;refine ⟨ν h1 Ć,fun k hk=> ?_⟩;by_cases ek:k=id
  ·subst ek;rw [Gh.cy] at hk;have:=ă b hk;omega
  ·obtain ⟨ty,sz,es,he,ho⟩:=h2 k (ā k b ek hk);exact ⟨ty,sz,es,by rw [bO _ _ _ hid,U (Ne.symm ek)];exact he,ho⟩
theorem Fr.new {g:Gh} {w w':Q} {id:D} {ge:GE} (Ć:w.heap.size<=w'.heap.size) (Ā: ∀b,b<w.heap.size->w'.heap[b]?=w.heap[b]?) (ă: ∀b,ge.bM=A b->w.heap.size<=b)
  (Į:w'.os=w.os) (ht:w'.tape=w.tape) (ho:w'.output=w.output):Fr g w (g.put id ge) w':=
 ⟨Ć,fun b hb hn=>⟨Ā b hb,fun k hk=>by
  by_cases e:id=k
  ·subst e;rw [Gh.cy] at hk;have:=ă b hk;omega
  ·rw [Gh.ca _ _ e] at hk;exact hn k hk,fun _ h=>h⟩,Į,ht,ho⟩
def Gh.eQ (g:Gh) (k:D) (x:GE) (S':D->D->Prop):Gh:={S:=S',e:=fun j=>if k=j then x else g.e j}
theorem Gh.bo (g:Gh) (k:D) (x:GE) (S':D->D->Prop):(g.eQ k x S').e k=x:=by simp [Gh.eQ]
theorem Gh.bj (g:Gh) {k j:D} (x:GE) (S':D->D->Prop) (h:k≠j):(g.eQ k x S').e j=g.e j:=by simp [Gh.eQ,h]
theorem Mem.upd {g:Gh} {bs:C af} {w w':Q} {id:D} {x:af} {ge:GE} {S':D->D->Prop} (h:Mem g bs w) (hid:id<É bs)
  (hS: ∀b o,g.S b o->S' b o) (č: ∀b o,g.S b o->w'.cell? ⟨b,o,F⟩=w.cell? ⟨b,o,F⟩) (ċ:GE.le (g.e id) ge)
  (Ā: ∀b,b<w.heap.size->(g.e id).bM≠A b->w'.heap[b]?=w.heap[b]?) (Ć:w.heap.size<=w'.heap.size) (ă: ∀b,ge.bM=A b->(g.e id).bM=A b\/w.heap.size<=b)
  (hx:x≠ .dead) (hv: ∀ty cs,x= .var ty cs-> ∃b,ge= .var b/\uI (g.eQ id ge S') w' ty b cs)
  (hs: ∀sh sz es,x= .sl sh sz es-> ∃loc,ge= .sl (É es) sz loc/\mL (g.eQ id ge S') w' sh sz es loc)
  (hn: ∀b o,S' b o->g.S b o\/(b<w'.heap.size/\ge.bM=A b)) (ho: ∀b o,S' b o->ge.bM=A b-> ∃ty sz es,x= .sl ⟨L,ty,F⟩ sz es/\o<É es*sz)
  (Į:w'.os=w.os) (ht:w'.tape=w.tape) (Ś:w'.output=w.output)
  (Ď: ∀st,x= .loop st-> ∃b r,ge= .loop b r/\w'.heap[b]?=A (.loop (st.record r)):=by intro _ h;cases h)
  (Ň: ∀es clock,x= .mp es clock-> ∃b,ge= .mp b/\Ar (g.eQ id ge S') w' b es clock:=by intro _ _ h;cases h)
  (hgo:x= .gone-> ∃m sz,ge= .sl m sz none:=by intro h;cases h)
  (hit: ∀o,x= .iter o-> ∃b,ge= .mp b/\o5 (g.eQ id ge S') w' id o b:=by intro _ h;cases h):
  Mem (g.eQ id ge S') (bs.set id x) w'/\Le g w (g.eQ id ge S') w'/\Fr g w (g.eQ id ge S') w':=by
 have hl:Le g w (g.eQ id ge S') w':=⟨hS,č,fun j=>by
  by_cases e:id=j
  ·subst e;rw [Gh.bo];exact ċ
  ·rw [Gh.bj _ _ _ e];exact .same _⟩
 have ā: ∀k b,k≠id->((g.eQ id ge S').e k).bM=A b->(g.e k).bM=A b:=fun k b hk hb=>by rwa [Gh.bj _ _ _ (Ne.symm hk)] at hb
 have ě: ∀k b,k≠id->(g.e k).bM=A b->w'.heap[b]?=w.heap[b]?:=fun k b hk hb=>Ā b (h.cR hb) (fun e=>hk (h.inj k id b hb e))
 have ň: ∀p∈Kn.ks,w'.heap[p.1]?=A p.2/\ ∀k,((g.eQ id ge S').e k).bM≠A p.1:=fun p hp=>by
  obtain ⟨h1,h2⟩:=h.kn p hp;have hlt:=bV h1;refine ⟨(Ā _ hlt (h2 id)).trans h1,fun k hb=> ?_⟩;by_cases ek:k=id
  ·subst ek;rw [Gh.bo] at hb;rcases ă _ hb with h3 | h3
   ·exact h2 k h3
   ·omega
  ·exact h2 k (ā k _ ek hb)
 refine ⟨⟨fun k hk=> ?_,fun k ty cs hk=> ?_,fun k sh sz es hk=> ?_,fun k st hk=> ?_,fun k es clock hk=> ?_,fun k hk=> ?_,fun k o hk=> ?_,fun k l b hk Đ=> ?_,fun b o hb=> ?_,ň⟩,hl,⟨Ć,fun b hb hne=>⟨Ā b hb (hne id),fun k hk=> ?_,fun o ģ=> ?_⟩,Į,ht,Ś⟩⟩
 ·rw [bO _ _ _ hid] at hk;by_cases e:id=k
  ·rw [Y e] at hk;exact ζ hk hx
  ·rw [U e] at hk;rw [Gh.bj _ _ _ e];exact h.no k hk
 ·rw [bO _ _ _ hid] at hk;by_cases e:id=k
  ·subst e;rw [Y rfl] at hk;rw [Gh.bo];exact hv ty cs hk
  ·rw [U e] at hk;obtain ⟨b,he,hr⟩:=h.var k ty cs hk;exact ⟨b,by rw [Gh.bj _ _ _ e];exact he,hr.mono hl (ě k b (Ne.symm e) (by rw [he];rfl))⟩
 ·rw [bO _ _ _ hid] at hk;by_cases e:id=k
  ·subst e;rw [Y rfl] at hk;rw [Gh.bo];exact hs sh sz es hk
  ·rw [U e] at hk;obtain ⟨loc,he,hr⟩:=h.sl k sh sz es hk;exact ⟨loc,by rw [Gh.bj _ _ _ e];exact he,hr.mono hl (fun p hp=>ě k p.1 (Ne.symm e) (by rw [he,hp];rfl))⟩
 ·rw [bO _ _ _ hid] at hk;by_cases e:id=k
  ·subst e;rw [Y rfl] at hk;rw [Gh.bo];exact Ď st hk
  ·rw [U e] at hk;obtain ⟨b,r,he,hr⟩:=h.loop k st hk;exact ⟨b,r,by rw [Gh.bj _ _ _ e];exact he,(ě k b (Ne.symm e) (by rw [he];rfl)).trans hr⟩
 ·rw [bO _ _ _ hid] at hk;by_cases e:id=k
  ·subst e;rw [Y rfl] at hk;rw [Gh.bo];exact Ň es clock hk
  ·rw [U e] at hk;obtain ⟨b,he,hr⟩:=h.mp k es clock hk;exact ⟨b,by rw [Gh.bj _ _ _ e];exact he,hr.mono hl (ě k b (Ne.symm e) (by rw [he];rfl))⟩
 ·rw [bO _ _ _ hid] at hk;by_cases e:id=k
  ·subst e;rw [Y rfl] at hk;rw [Gh.bo];exact hgo hk
  ·rw [U e] at hk;rw [Gh.bj _ _ _ e];exact h.gone k hk
 ·rw [bO _ _ _ hid] at hk;by_cases e:id=k
  ·subst e;rw [Y rfl] at hk;rw [Gh.bo];exact hit o hk
  ·rw [U e] at hk;obtain ⟨b,he,hr⟩:=h.it k o hk;exact ⟨b,by rw [Gh.bj _ _ _ e];exact he,hr.le hl (ě k b (Ne.symm e) (by rw [he];rfl))⟩
 ·by_cases ek:k=id <;> by_cases el:l=id
  ·rw [ek,el]
  ·subst ek;rw [Gh.bo] at hk;have h1:=ā l b el Đ;rcases ă b hk with h2 | h2
   ·exact h.inj k l b h2 h1
   ·have:=h.cR h1;omega
  ·subst el;rw [Gh.bo] at Đ;have h1:=ā k b ek hk;rcases ă b Đ with h2 | h2
   ·exact h.inj k l b h1 h2
   ·have:=h.cR h1;omega
  ·exact h.inj k l b (ā k b ek hk) (ā l b el Đ)
 ·have hlt:b<w'.heap.size:=by
   rcases hn b o hb with h1 | ⟨h1,_⟩
   ·exact ν (h.dh b o h1).1 Ć
   ·exact h1
  refine ⟨hlt,fun k hk=> ?_⟩;by_cases ek:k=id
  ·subst ek;rw [Gh.bo] at hk;obtain ⟨ty,sz,es,h1,h2⟩:=ho b o hb hk;exact ⟨ty,sz,es,by rw [bO _ _ _ hid,Y rfl];exact h1,h2⟩
  ·have h1:=ā k b ek hk;rcases hn b o hb with h2 | ⟨_,h2⟩
   ·obtain ⟨ty,sz,es,he,ś⟩:=(h.dh b o h2).2 k h1;exact ⟨ty,sz,es,by rw [bO _ _ _ hid,U (Ne.symm ek)];exact he,ś⟩
   ·rcases ă b h2 with h3 | h3
    ·exact ζ (h.inj k id b h1 h3) ek
    ·have:=h.cR h1;omega
 ·by_cases e:k=id
  ·subst e;rw [Gh.bo] at hk;rcases ă b hk with h1 | h1
   ·exact hne k h1
   ·omega
  ·exact hne k (ā k b e hk)
 ·rcases hn b o ģ with h1 | ⟨_,h1⟩
  ·exact h1
  ·rcases ă b h1 with h2 | h2
   ·exact ζ h2 (hne id)
   ·omega
theorem Mem.Za {g:Gh} {bs:C af} {w:Q} {id:D} {sh:Hd} {sz:D} {es:C AV} {b cap:D} (h:Mem g bs w) (hid:id<É bs) (hd:af.at bs id= .dead)
  (hb:b<w.heap.size) (ħ: ∀k,(g.e k).bM≠A b) (hS: ∀o,¬ g.S b o) (hk: ∀p∈Kn.ks,p.1≠b)
  (hs:mL (g.put id (.sl (É es) sz (A (b,cap)))) w sh sz es (A (b,cap))):
  Mem (g.put id (.sl (É es) sz (A (b,cap)))) (bs.set id (.sl sh sz es)) w/\Le g w (g.put id (.sl (É es) sz (A (b,cap)))) w:=by
 have hl:Le g w (g.put id (.sl (É es) sz (A (b,cap)))) w:=xP (by rw [h.no id hd];exact .no _) (fun _ _ _=>rfl);have ā: ∀k b',k≠id->((g.put id (.sl (É es) sz (A (b,cap)))).e k).bM=A b'->(g.e k).bM=A b':=fun k b' hk hb=>by rwa [Gh.ca _ _ (Ne.symm hk)] at hb
 have Ē: ∀b',((g.put id (.sl (É es) sz (A (b,cap)))).e id).bM=A b'->b=b':=fun b' ģ=>by rw [Gh.cy] at ģ;simpa [GE.bM] using ģ
 refine ⟨⟨fun k hk=> ?_,fun k ty cs hk=> ?_,fun k sh' Ĝ ġ hk=> ?_,fun k st hk=> ?_,fun k ġ clock hk=> ?_,fun k hk=> ?_,fun k o hk=> ?_,fun k l b' hk Đ=> ?_,fun b' o ģ=> ?_,fun p hp=>⟨(h.kn p hp).1,fun k Ŕ=> ?_⟩⟩,hl⟩
 ·rw [bO _ _ _ hid] at hk;by_cases e:id=k
  ·rw [Y e] at hk;cases hk
  ·rw [U e] at hk;rw [Gh.ca _ _ e];exact h.no k hk
 ·rw [bO _ _ _ hid] at hk;by_cases e:id=k
  ·rw [Y e] at hk;cases hk
  ·rw [U e] at hk;obtain ⟨b,he,hr⟩:=h.var k ty cs hk;exact ⟨b,by rw [Gh.ca _ _ e];exact he,hr.mono hl rfl⟩
 ·rw [bO _ _ _ hid] at hk;by_cases e:id=k
  ·subst e;rw [Y rfl] at hk;rw [Gh.cy];cases hk;exact ⟨_,rfl,hs⟩
  ·rw [U e] at hk;obtain ⟨loc,he,hr⟩:=h.sl k sh' Ĝ ġ hk;exact ⟨loc,by rw [Gh.ca _ _ e];exact he,hr.mono hl (fun _ _=>rfl)⟩
 ·rw [bO _ _ _ hid] at hk;by_cases e:id=k
  ·rw [Y e] at hk;cases hk
  ·rw [U e] at hk;obtain ⟨b,r,he,hr⟩:=h.loop k st hk;exact ⟨b,r,by rw [Gh.ca _ _ e];exact he,hr⟩
 ·rw [bO _ _ _ hid] at hk;by_cases e:id=k
  ·rw [Y e] at hk;cases hk
  ·rw [U e] at hk;obtain ⟨b,he,hr⟩:=h.mp k ġ clock hk;exact ⟨b,by rw [Gh.ca _ _ e];exact he,hr.mono hl rfl⟩
 ·rw [bO _ _ _ hid] at hk;by_cases e:id=k
  ·rw [Y e] at hk;cases hk
  ·rw [U e] at hk;rw [Gh.ca _ _ e];exact h.gone k hk
 ·rw [bO _ _ _ hid] at hk;by_cases e:id=k
  ·rw [Y e] at hk;cases hk
  ·rw [U e] at hk;rw [Gh.ca _ _ e];obtain ⟨b,h1,h2⟩:=h.it k o hk;exact ⟨b,h1,h2.le hl rfl⟩
 ·by_cases ek:k=id <;> by_cases el:l=id
  ·rw [ek,el]
  ·subst ek;have e1:=Ē _ hk;subst e1;exact ζ (ā l _ el Đ) (ħ l)
  ·subst el;have e1:=Ē _ Đ;subst e1;exact ζ (ā k _ ek hk) (ħ k)
  ·exact h.inj k l b' (ā k b' ek hk) (ā l b' el Đ)
 ·obtain ⟨h1,h2⟩:=h.dh b' o ģ;refine ⟨h1,fun k hk=> ?_⟩;by_cases ek:k=id
  ·subst ek;have e1:=Ē _ hk;subst e1;exact ζ ģ (hS o)
  ·obtain ⟨ty,Ĝ,ġ,he,ho⟩:=h2 k (ā k b' ek hk);exact ⟨ty,Ĝ,ġ,by rw [bO _ _ _ hid,U (Ne.symm ek)];exact he,ho⟩
 ·by_cases ek:k=id
  ·subst ek;have e1:=Ē _ Ŕ;exact hk p hp e1.symm
  ·exact (h.kn p hp).2 k (ā k _ ek Ŕ)
end Go.Am
namespace Go.Am
variable [Kn]
structure cb (c:aD) (P:γ):Prop where
 ty: ∀t i,c.ti t=A i->P7 P t=A i
structure G4 (P:γ) (t:J) (i:TI) (j:TypeInfo):Prop where
 info:P.info? t=A j
 fM:P.underlying t=A i.desc
 size:j.size=i.size
 bytes:j.bytes=i.bytes
 zero:i.zero=j.zero.map fun z=>(gH z).cells
 agg:i.agg=G3 i.desc
 eq:i.eq=uH P t
 fields:i.fields=fieldsOf P i.desc
 fok:xO P i.desc=L
 zok:P6 j.zero i.agg=L
theorem bS {P:γ} {t:J} {i:TI} (h:P7 P t=A i): ∃info,G4 P t i info:=by
 unfold P7 at h;cases h1:P.info? t with
 | none=>simp [h1] at h
 | some info=>
  cases h2:P.underlying t with
  | none=>simp [h1,h2] at h
  | some d=>
   simp only [h1,h2] at h;split at h
   ·cases h
   ·rename_i hok;simp only [H] at h;subst h;simp only [not_or,Bool.not_eq_false] at hok;exact ⟨info,h1,h2,rfl,rfl,rfl,rfl,rfl,rfl,hok.1,hok.2⟩
def gv (g:Gh) (w:Q) (t:Env) (a:Act):Prop:= ∀i,t.has i=true->i<a.tmps.size/\Rd g w (t.get .any i) (a.tmps.getD i undef)
theorem gv.mono {g g':Gh} {w w':Q} {t:Env} {a:Act} (hl:Le g w g' w') (h:gv g w t a):gv g' w' t a:=
 fun i hi=>⟨(h i hi).1,(h i hi).2.mono hl⟩
theorem gv.get {g:Gh} {w:Q} {t:Env} {a:Act} (h:gv g w t a) (i:D):Rd g w (t.get .any i) (a.tmps.getD i undef):=by
 cases hi:t.has i with
 | true=>exact (h i hi).2
 | false=>rw [Tr.vG _ _ hi];exact .any _
theorem gv.put {g:Gh} {w:Q} {t:Env} {a:Act} (h:gv g w t a) (d:B Tmp) {x:AV} {v:I} (hv:Rd g w x v):gv g w (aP t d x) (a.put d v):=by
 cases d with
 | none=>exact h
 | some d=>
  intro i hi;simp only [aP,Tr.gp] at hi;obtain ⟨h1,h2⟩:=h i hi;refine ⟨by simpa [Act.put] using h1,?_⟩;by_cases e:d=i
  ·subst e;simp only [aP,Tr.ed _ _ _ hi,Act.put];simpa [h1] using hv
  ·simp only [aP,Tr.bK _ _ _ e,Act.put];simpa [ο e] using h2
theorem Cx (g:Gh) (w:Q) (v:I):Rd g w (kv v) v:=by
 unfold kv;split
 ·exact .int _ _
 ·exact .bool _
 ·rename_i s;exact .str s.data.toList
 ·exact .cn
 ·exact .ah (A L) 0 [] F 0 0 0 (fun _ _=>undef) (fun x h=>by simp at h;simp [h]) (fun _=>⟨rfl,rfl⟩) (W _) (fun h=>ζ rfl h) (fun i e h=>by simp at h) (fun i j e x h=>by simp at h) (fun i j e x h=>by simp at h)
 ·exact .er
 ·exact .il O _ (.inl ⟨rfl,rfl⟩)
 ·exact .any _
 ·exact .any _
 ·refine .jZ _ ?_;rename_i h1 h2;cases v <;> first | rfl | (exact ζ rfl (h1 _)) | (exact ζ rfl (h2 _))
theorem rd_val (g:Gh) (w:Q) (v:I):Rd g w (gH v) v:=by
 unfold gH;split
 ·rename_i cs;refine .agg _ _ (by simp) (fun i c u hc hu=> ?_);simp only [θ,π,hu,T,H] at hc;subst hc;exact Cx g w u
 ·rename_i cs;refine .aK _ _ (by simp) (fun i c u hc hu=> ?_);simp only [θ,π,hu,T,H] at hc;subst hc;exact Cx g w u
 ·exact Cx g w v
theorem gv.ev {g:Gh} {w:Q} {t:Env} {a:Act} (h:gv g w t a) (x:ρ):Rd g w (ev t x) (a.eval x):=by
 cases x with
 | tmp i=>exact h.get i
 | const v=>exact rd_val g w v
 | func f=>exact .fn f [] [] #[] #[] rfl rfl (fun i c v h=>by simp at h) (fun i c v h=>by simp at h)
 | global n=>exact .any _
def di (r:ό φ) (g:Gh) (w:Q) (bs':C af) (d:AV):Prop:=
 ∃nx v w' g',r= .ok nx w'/\(nx= .value v\/(nx= .skip/\v=undef))/\Mem g' bs' w'/\Le g w g' w'/\Fr g w g' w'/\Rd g' w' d v
theorem di.pure {r:ό φ} {g:Gh} {w:Q} {bs:C af} {d:AV} {v:I} (hr:r= .ok (.value v) w) (hm:Mem g bs w) (hd:Rd g w d v):di r g w bs d:=
 ⟨_,v,w,g,hr,.inl rfl,hm,Le.refl _ _,Fr.refl _ _,hd⟩
section
variable {g:Gh} {w:Q}
theorem Rd.aU {k:Β} {n:Int} {v:I} (h:Rd g w (.int k n) v):v= .int k n:=by cases h;rfl
theorem Rd.dL {b:M} {v:I} (h:Rd g w (.bool b) v):v= .bool b:=by cases h;rfl
theorem Rd.cS {s:C Α} {v:I} (h:Rd g w (.str s) v):v= .string ⟨s.toArray⟩:=by cases h;rfl
theorem Rd.kC {v:I} (h:Rd g w .cn v):v= .pointer none:=by cases h;rfl
theorem Rd.sV {v:I} (h:Rd g w .er v):v= .nilFunc:=by cases h;rfl
theorem Rd.g7 {k off:D} {v:I} (h:Rd g w (.ptr k off) v): ∃b,g.e k= .var b/\v= .pointer (A ⟨b,off,F⟩):=by cases h;exact ⟨_,‹_›,rfl⟩
theorem Rd.eI {cs:C AV} {v:I} (h:Rd g w (.agg cs) v): ∃vs,v= .agg vs/\vs.size=É cs/\ ∀(i:D) (c:AV) (v:I),cs[i]?=A c->vs[i]?=A v->Rd g w c v:=by cases h;exact ⟨_,rfl,‹_›,‹_›⟩
theorem Rd.Cy {cs:C AV} {v:I} (h:Rd g w (.aK cs) v): ∃vs,v= .tuple vs/\vs.size=É cs/\ ∀(i:D) (c:AV) (v:I),cs[i]?=A c->vs[i]?=A v->Rd g w c v:=by cases h;exact ⟨_,rfl,‹_›,‹_›⟩
end
theorem aZ (P:γ) (w w':Q) (s:Sem I) (v:I) (h:s.run P w= .ok v w'):(do pure (Next.value (<-s)):Sem φ).run P w= .ok (.value v) w':=by simp [h]
theorem Kv (P:γ) (w:Q) (t:J) (op:Θ) (k:Β) (a b:Int) (r:AV) (h:mJ op k a b=A r) (hs:op≠ .shl) (Ŝ:op≠ .shr):
  ∃v,(binOp op t (.int k a) (.int k b)).run P w= .ok v w/\ ∀g,Rd g w r v:=by
 cases op
 case shl=>exact ζ rfl hs
 case shr=>exact ζ rfl Ŝ
 case quo=>
  simp only [mJ] at h;split at h
  ·cases h
  ·rename_i hb;cases h;exact ⟨_,by simp only [binOp,Op.intDiv,hb,ne_eq,not_true,Ρ];rfl,fun g=> .int _ _⟩
 case rem=>
  simp only [mJ] at h;split at h
  ·cases h
  ·rename_i hb;cases h;exact ⟨_,by simp only [binOp,Op.intDiv,hb,ne_eq,not_true,Ρ];rfl,fun g=> .int _ _⟩
 all_goals
  simp only [mJ,H] at h;subst h;refine ⟨_,by simp only [binOp,Op.intArith,Op.intCmp,Op.intBits,ne_eq,not_true,Ρ];rfl,fun g=> ?_⟩
  first | exact .int _ _ | exact .bool _
theorem vH (P:γ) (w:Q) (t:J) (op:Θ) (k k':Β) (a b:Int) (r:AV) (h:nA op k a b=A r) (hs:op= .shl\/op= .shr):
  ∃v,(binOp op t (.int k a) (.int k' b)).run P w= .ok v w/\ ∀g,Rd g w r v:=by
 unfold nA at h;split at h
 ·cases h
 ·rename_i hb;rcases hs with rfl | rfl
  ·cases h;exact ⟨_,by simp only [binOp,Op.shift,hb,Ρ];rfl,fun g=> .int _ _⟩
  ·cases h;exact ⟨_,by simp only [binOp,Op.shift,hb,Ρ];rfl,fun g=> .int _ _⟩
theorem g8 (s:C Α):(ByteArray.mk s.toArray).toList=s:=by rw [ByteArray.toList_eq]
theorem Cz (a b:C Α):(ByteArray.mk a.toArray)++(ByteArray.mk b.toArray)=ByteArray.mk (a++b).toArray:=by apply ByteArray.ext;simp [ByteArray.data_append]
theorem Kw (P:γ) (w:Q) (t:J) (op:Θ) (a b:C Α) (r:AV) (h:Aq op a b=A r):
  ∃v,(binOp op t (.string ⟨a.toArray⟩) (.string ⟨b.toArray⟩)).run P w= .ok v w/\ ∀g,Rd g w r v:=by
 cases op
 case add=>
  simp only [Aq] at h;split at h
  ·rename_i hl;simp only [H] at h;subst h;refine ⟨.string ⟨(a++b).toArray⟩,?_,fun g=> .str _⟩
   have Đ: ¬ (((ByteArray.mk a.toArray).size+(ByteArray.mk b.toArray).size:D):Int)>IntKind.i64.max:=by
    simp only [IntKind.max_i64,xG] at*
    show¬ ((a.toArray.size+b.toArray.size:D):Int)>_;simp only [Ο];omega
   simp only [binOp,Op.stringOp];rw [U Đ,Cz];rfl
  ·cases h
 all_goals
  simp only [Aq,H,reduceCtorEq] at h
 all_goals
  subst h;refine ⟨_,by simp only [binOp,Op.stringOp,g8];rfl,fun g=> ?_⟩;exact .bool _
theorem D9 {P:γ} {g:Gh} {w:Q} {t:J} {i:TI} {info:TypeInfo} (hi:G4 P t i info) {cs:C AV} {vs:R I} {off:D} {p:AV}
  (hn:vs.size=É cs) (h: ∀(i:D) (c:AV) (v:I),cs[i]?=A c->vs[i]?=A v->Rd g w c v) (hp:je i cs off=A p):
  ∃u,(part t vs off).run P w= .ok u w/\Rd g w p u:=by
 unfold je at hp;cases ha:i.agg with
 | true=>
  rw [ha] at hp;simp only at hp;split at hp
  ·rename_i hle;simp only [H] at hp;subst hp;refine ⟨.agg (vs.extract off (off+i.size)),?_,.agg _ _ (by simp;omega) (fun j c v hc hv=> ?_)⟩
   ·have hd:=hi.agg;rw [ha] at hd
    cases hdesc:i.desc <;> rw [hdesc] at hd <;> simp only [G3,Λ] at hd <;>
     simp [part,isAgg,E (hdesc▸hi.fM),sizeOf,typeInfo,hi.info,hi.size]
   ·rw [η] at hc;split at hc
    ·rw [Z] at hc;rw [Array.getElem?_extract] at hv;split at hv
     ·exact h _ _ _ hc hv
     ·cases hv
    ·cases hc
  ·cases hp
 | false=>
  rw [ha] at hp;simp only at hp;have hd:=hi.agg;rw [ha] at hd
  have hlt:off<vs.size:=by
   rw [hn];rcases μ off (É cs) with h' | h'
   ·exact h'
   ·rw [V h'] at hp;cases hp
  refine ⟨vs[off],?_,h off p _ hp (by simp [hlt])⟩
  cases hdesc:i.desc <;> rw [hdesc] at hd <;> simp only [G3,ψ] at hd <;>
   simp [part,isAgg,E (hdesc▸hi.fM),hlt]
theorem Rd.nH {g:Gh} {w:Q} {nl:B M} {sz:D} {es:C AV} {v:I} (h:Rd g w (.ah nl sz es) v):
  ∃a cap,v= .slice a (É es) cap/\(∀x,nl=A x->a.isNone=x)/\(a=none->es= []/\cap=0):=by
 cases h;exact ⟨_,_,rfl,‹_›,‹_›⟩
structure Vars (g:Gh) (w:Q):Prop where
 row: ∀k b,g.e k= .var b-> ∃c ty,w.heap[b]?=A (.cells c ty (0,0))
 inj: ∀k l b,g.e k= .var b->g.e l= .var b->k=l
theorem Mem.vars {g:Gh} {bs:C af} {w:Q} (hm:Mem g bs w):Vars g w where
 row k b h:=by
  cases hb:af.at bs k with
  | dead=>rw [hm.no k hb] at h;cases h
  | var ty cs=>obtain ⟨b',h1,c,h2,_⟩:=hm.var k ty cs hb;rw [h] at h1;cases h1;exact ⟨c,ty,h2⟩
  | sl sh sz es=>obtain ⟨loc,h1,_⟩:=hm.sl k sh sz es hb;rw [h] at h1;cases h1
  | loop st=>obtain ⟨b',r,h1,_⟩:=hm.loop k st hb;rw [h] at h1;cases h1
  | mp es clock=>obtain ⟨b',h1,_⟩:=hm.mp k es clock hb;rw [h] at h1;cases h1
  | gone=>obtain ⟨m,sz,h1⟩:=hm.gone k hb;rw [h] at h1;cases h1
  | iter o=>obtain ⟨b',h1,_⟩:=hm.it k o hb;rw [h] at h1;cases h1
 inj k l b h1 h2:=hm.inj k l b (by rw [h1];rfl) (by rw [h2];rfl)
theorem CB {P:γ} {w:Q} {b b' o o':D} {c c':R I} {ty ty':J} (h:w.heap[b]?=A (.cells c ty (0,0))) (h':w.heap[b']?=A (.cells c' ty' (0,0))):
  (sameAddr ⟨b,o,F⟩ ⟨b',o',F⟩).run P w= .ok (b==b'&&o==o') w:=by
 by_cases e:b=b'
 ·subst e;by_cases e:o=o'
  ·subst e;simp [sameAddr]
  ·have:((⟨b,o,F⟩:ώ)==⟨b,o',F⟩)=false:=by rw [beq_eq_false_iff_ne];intro h;cases h;exact e rfl
   simp [sameAddr,this,e]
 ·simp [sameAddr,e,World.frozen?,h,h',noView,viewAt,World.shape?,mayBeOne,stringish]
theorem G5 {P:γ} {c:aD} (hc:cb c P) {g:Gh} {w:Q} (į:Vars g w) {t:J} {d:ξ} (hu:P.underlying t=A d) {x y:AV} {u v:I} (hx:Rd g w x u) (hy:Rd g w y v) {b:M} (h:ky c d x y=A b) (n:D):
  (Op.equalIn (n+1) t u v).run P w= .ok b w:=by
 unfold ky at h;split at h
 ·split at h
  ·cases h;rw [hx.dL,hy.dL];exact run_equalIn_bool w n t _ _ hu
  ·cases h
 ·split at h
  ·split at h
   ·rename_i hk;subst hk;cases h;rw [hx.aU,hy.aU];exact run_equalIn_int w n t _ _ _ _ hu
   ·cases h
  ·cases h
 ·split at h
  ·cases h;rw [hx.cS,hy.cS,run_equalIn_string w n t _ _ hu,g8,g8]
  ·cases h
 ·split at h <;> try cases h
  ·rw [hx.kC,hy.kC];simp [Op.equalIn,E hu]
  ·obtain ⟨_,_,rfl⟩:=hy.g7;rw [hx.kC];simp [Op.equalIn,E hu]
  ·obtain ⟨_,_,rfl⟩:=hx.g7;rw [hy.kC];simp [Op.equalIn,E hu]
  ·cases hy;rw [hx.kC];simp [Op.equalIn,E hu]
  ·cases hx;rw [hy.kC];simp [Op.equalIn,E hu]
  rename_i el _ _ k o l o';split at h
  ·rename_i j hj;split at h <;> cases h;rename_i ŝ;obtain ⟨info,hi⟩:=bS (hc.ty el j hj);have Ć:(sizeOf el).run P w= .ok j.size w:=by simp [sizeOf,typeInfo,hi.info,hi.size]
   obtain ⟨b1,e1,rfl⟩:=hx.g7;obtain ⟨b2,e2,rfl⟩:=hy.g7;obtain ⟨c1,t1,h1⟩:=į.row k b1 e1;obtain ⟨c2,t2,h2⟩:=į.row l b2 e2
   have hb:(b1==b2)=(k==l):=by
    by_cases e:k=l
    ·subst e;rw [e1] at e2;cases e2;simp
    ·have:b1≠b2:=fun e'=>by subst e';exact e (į.inj k l b1 e1 e2)
     rw [beq_eq_false_iff_ne.2 this,beq_eq_false_iff_ne.2 e]
   have:=CB (P:=P) (o:=o) (o':=o') h1 h2;rw [hb] at this;simp [Op.equalIn,E hu,Ć,ŝ,samePointer,this]
  ·cases h
 ·split at h <;> cases h
  ·obtain ⟨a,cap,rfl,ha,_⟩:=hx.nH;obtain ⟨a',Ķ,rfl,Ĥ,_⟩:=hy.nH;have h1:=ha _ rfl;have h2:=Ĥ _ rfl;cases a' with
   | some _=>simp at h2
   | none=>rw [<-h1];cases a <;> simp [Op.equalIn,E hu]
  ·obtain ⟨a,cap,rfl,_,ĉ⟩:=hx.nH;obtain ⟨a',Ķ,rfl,Ĥ,_⟩:=hy.nH;have h2:=Ĥ _ rfl;cases a' with
   | some _=>simp at h2
   | none=>
    cases a with
    | none=>exact ζ (ĉ rfl).1 (by simp)
    | some _=>simp [Op.equalIn,E hu]
  ·cases hx with
   | cG _ a Ĉ=>
    obtain ⟨a',Ķ,rfl,Ĥ,_⟩:=hy.nH;have h1:=Ĉ _ rfl;have h2:=Ĥ _ rfl;cases a' with
    | some _=>simp at h2
    | none=>rw [<-h1];cases a <;> simp [Op.equalIn,E hu]
 ·split at h <;> cases h
  ·rw [hx.sV,hy.sV];simp [Op.equalIn,E hu]
  ·cases hx;rw [hy.sV];simp [Op.equalIn,E hu]
  ·cases hy;rw [hx.sV];simp [Op.equalIn,E hu]
 ·cases h
theorem As {a b:B M} {r:M} (h:both a b=A r): ∃p q,a=A p/\b=A q/\r=(p&&q):=by
 cases a with
 | none=>cases h
 | some p=>cases b with
  | none=>cases h
  | some q=>simp only [both,H] at h;exact ⟨p,q,rfl,rfl,h.symm⟩
section
variable {P:γ} {c:aD} (hc:cb c P) {g:Gh} {w:Q}
include hc
theorem iK {t:J} {cs:C AV} {vs:R I} {off:D} {p:AV} (hn:vs.size=É cs) (h: ∀(i:D) (c:AV) (v:I),cs[i]?=A c->vs[i]?=A v->Rd g w c v)
  (hp:jc c t cs off=A p): ∃u,(part t vs off).run P w= .ok u w/\Rd g w p u:=by
 unfold jc at hp;cases ht:c.ti t with
 | none=>rw [ht] at hp;cases hp
 | some i=>rw [ht] at hp;obtain ⟨info,hi⟩:=bS (hc.ty t i ht);exact D9 hi hn h hp
theorem sW {eq:J->AV->AV->B M} {n:D} (heq: ∀t x y u v b,eq t x y=A b->Rd g w x u->Rd g w y v->(Op.equalIn n t u v).run P w= .ok b w)
  {xs ys:C AV} {us vs:R I} (hx:us.size=É xs) (Ė: ∀(i:D) (c:AV) (v:I),xs[i]?=A c->us[i]?=A v->Rd g w c v)
  (hy:vs.size=É ys) (Ģ: ∀(i:D) (c:AV) (v:I),ys[i]?=A c->vs[i]?=A v->Rd g w c v):
  ∀(fs:C Field) (b:M),(∀f∈fs,f.name≠ "_")->eqFields (jc c) eq xs ys (fs.map fun f=>(f.type,f.offset,((P.info? f.type).map (·.size)).getD 0))=A b->
   (Op.eqFields n us vs fs).run P w= .ok b w
 | [],b,_,h=>by simp only [List.map_nil,eqFields,H] at h;subst h;rfl
 | f::fs,b,Ľ,h=>by
  simp only [ϋ,eqFields] at h;split at h
  ·rename_i p q hp hq;obtain ⟨r1,r2,h1,h2,rfl⟩:=As h;obtain ⟨u,hu,ru⟩:=iK hc hx Ė hp;obtain ⟨v,hv,rv⟩:=iK hc hy Ģ hq;have he:=heq _ _ _ _ _ _ h1 ru rv;have ih:=sW heq hx Ė hy Ģ fs r2 (fun f hf=>Ľ f (Ι _ hf)) h2;simp only [Op.eqFields,Ľ f Μ,ne_eq,not_false_eq_true,if_true,Sem.run_bind,hu,hv,he,Result.andThen_ok];cases r1
   ·simp
   ·simpa using ih
  ·cases h
theorem vI {eq:J->AV->AV->B M} {n:D} (heq: ∀t x y u v b,eq t x y=A b->Rd g w x u->Rd g w y v->(Op.equalIn n t u v).run P w= .ok b w) (e:J) (m:D)
  {xs ys:C AV} {us vs:R I} (hx:us.size=É xs) (Ė: ∀(i:D) (c:AV) (v:I),xs[i]?=A c->us[i]?=A v->Rd g w c v)
  (hy:vs.size=É ys) (Ģ: ∀(i:D) (c:AV) (v:I),ys[i]?=A c->vs[i]?=A v->Rd g w c v):
  ∀(is:C D) (b:M),eqItems (jc c) eq e m xs ys is=A b->(Op.eqItems n e m us vs is).run P w= .ok b w
 | [],b,h=>by simp only [eqItems,H] at h;subst h;rfl
 | i::is,b,h=>by
  simp only [eqItems] at h;split at h
  ·rename_i p q hp hq;obtain ⟨r1,r2,h1,h2,rfl⟩:=As h;obtain ⟨u,hu,ru⟩:=iK hc hx Ė hp;obtain ⟨v,hv,rv⟩:=iK hc hy Ģ hq;have he:=heq _ _ _ _ _ _ h1 ru rv;have ih:=vI heq e m hx Ė hy Ģ is r2 h2;simp only [Op.eqItems,Sem.run_bind,hu,hv,he,Result.andThen_ok];cases r1
   ·simp
   ·simpa using ih
  ·cases h
theorem mM (į:Vars g w): ∀(d n:D) (t:J) (x y:AV) (u v:I) (b:M),bu c d t x y=A b->Rd g w x u->Rd g w y v->(Op.equalIn (n+d) t u v).run P w= .ok b w
 | 0,_,_,_,_,_,_,_,h,_,_=>by cases h
 | d+1,n,t,x,y,u,v,b,h,hx,hy=>by
  unfold bu at h;cases ht:c.ti t with
  | none=>rw [ht] at h;cases h
  | some i=>
   obtain ⟨info,hi⟩:=bS (hc.ty t i ht);rw [ht] at h;simp only at h;split at h
   ·rename_i xs ys;obtain ⟨us,rfl,ľ,Ė⟩:=hx.eI;obtain ⟨vs,rfl,Ł,Ģ⟩:=hy.eI;split at h
    ·rename_i heq;have het:uH P t=true:=by rw [<-hi.eq];exact heq
     unfold uH at het;split at h
     ·rename_i fs hdesc;have hu:P.underlying t=A (.struct fs):=hdesc▸hi.fM;simp only [hu,N,Τ,Υ,bne_iff_ne] at het;have hf:P.fieldsOf t=fs:=by simp [Program.fieldsOf,hu]
      rw [show n+(d+1)=(n+d)+1 from rfl,run_equalIn_struct w (n+d) t us vs (by rw [hf];exact hu) het.2.1,hf];rw [hi.fields,hdesc] at h;exact sW hc (fun t x y u v b he rx ry=>mM į d n t x y u v b he rx ry) ľ Ė Ł Ģ fs.toList b het.2.2 h
     ·rename_i len e hdesc;have hu:P.underlying t=A (.array len e):=hdesc▸hi.fM;split at h
      ·rename_i j hj;obtain ⟨ē,he⟩:=bS (hc.ty e j hj);have İ:P.cellsOf e=j.size:=by simp [Program.cellsOf,he.info,he.size]
       rw [show n+(d+1)=(n+d)+1 from rfl,run_equalIn_array w (n+d) us vs hu he.info,İ];exact vI hc (fun t x y u v b he rx ry=>mM į d n t x y u v b he rx ry) e j.size ľ Ė Ł Ģ _ b h
      ·cases h
     ·cases h
    ·cases h
   ·exact G5 hc į hi.fM hx hy h (n+d)
end
theorem vJ {P:γ} {c:aD} (hc:cb c P) {g:Gh} {w:Q} {d:D} {t:J} {x y:AV} {u v:I} {b:M} (h:bu c d t x y=A b) (hx:Rd g w x u) (hy:Rd g w y v) (op:Θ) (p q:ρ):
  (eqGuard op t p q u v).run P w= .ok () w:=by
 cases d with
 | zero=>cases h
 | succ d=>
  unfold bu at h;cases ht:c.ti t with
  | none=>rw [ht] at h;cases h
  | some i=>
   obtain ⟨info,hi⟩:=bS (hc.ty t i ht);rw [ht] at h;simp only at h;split at h
   ·obtain ⟨us,rfl,ľ,Ė⟩:=hx.eI;obtain ⟨vs,rfl,Ł,Ģ⟩:=hy.eI;split at h
    ·rename_i heq;have het:uH P t=true:=by rw [<-hi.eq];exact heq
     unfold uH at het;simp only [N,Τ] at het;exact run_eqGuard_agg w op t p q us vs het.1
    ·cases h
   ·unfold ky at h;split at h <;> (try (split at h)) <;> (try cases h) <;> cases hx <;> simp [go_sem]
theorem Ea {c:aD} {g:Gh} {w:Q} {d:D} {t:J} {x y:AV} {u v:I} {b:M} (h:bu c d t x y=A b) (hx:Rd g w x u) (hy:Rd g w y v)
  (hi: ∀k a k' b,x= .int k a->y= .int k' b->Κ) (hs: ∀a b,x= .str a->y= .str b->Κ):
  binOp .eql t u v=(do pure (.bool (<-Op.equal t u v)):Sem I)/\binOp .neq t u v=(do pure (.bool (!(<-Op.equal t u v))):Sem I):=by
 cases d with
 | zero=>cases h
 | succ d=>
  unfold bu at h;cases ht:c.ti t with
  | none=>rw [ht] at h;cases h
  | some i=>
   rw [ht] at h;simp only at h;split at h
   ·obtain ⟨us,rfl,ľ,Ė⟩:=hx.eI;obtain ⟨vs,rfl,Ł,Ģ⟩:=hy.eI;exact ⟨rfl,rfl⟩
   ·unfold ky at h
    split at h <;> (try (split at h)) <;> (try cases h) <;> first
     | exact (hi _ _ _ _ rfl rfl).elim
     | exact (hs _ _ rfl rfl).elim
     | (cases hx <;> cases hy <;> exact ⟨rfl,rfl⟩)
theorem Kx {P:γ} {c:aD} (hc:cb c P) {g:Gh} {bs:C af} {w:Q} (hm:Mem g bs w) {op:Θ} {t:J} {x y r:AV} {u v:I} (hx:Rd g w x u) (hy:Rd g w y v) (h:jf c t op x y=A r) (p q:ρ):
  di ((do pure (Next.value (<-(do eqGuard op t p q u v;binOp op t u v))):Sem φ).run P w) g w bs r:=by
 have key: ∀z,(eqGuard op t p q u v).run P w= .ok () w->(binOp op t u v).run P w= .ok z w->Rd g w r z->di ((do pure (Next.value (<-(do eqGuard op t p q u v;binOp op t u v))):Sem φ).run P w) g w bs r:=fun z h1 h2 h3=>
  .pure (v:=z) (by simp [h1,h2]) hm h3
 unfold jf at h;split at h
 ·rename_i k a k' b;obtain rfl:=hx.aU;obtain rfl:=hy.aU;split at h
  ·obtain ⟨z,h1,h2⟩:=vH P w t .shl k k' a b r h (.inl rfl);exact key z (by simp [go_sem]) h1 (h2 g)
  ·obtain ⟨z,h1,h2⟩:=vH P w t .shr k k' a b r h (.inr rfl);exact key z (by simp [go_sem]) h1 (h2 g)
  ·rename_i Ş ş;split at h
   ·rename_i hk;subst hk;obtain ⟨z,h1,h2⟩:=Kv P w t op k a b r h Ş ş;exact key z (by simp [go_sem]) h1 (h2 g)
   ·cases h
 ·rename_i a b;obtain rfl:=hx.cS;obtain rfl:=hy.cS;obtain ⟨z,h1,h2⟩:=Kw P w t op a b r h;exact key z (by simp [go_sem]) h1 (h2 g)
 ·rename_i ŕ hn2;split at h
  ·cases he:bu c 20 t x y with
   | none=>rw [he] at h;cases h
   | some b=>rw [he] at h;simp only [T,H] at h;subst h;have h1:=mM hc hm.vars 20 9980 t x y u v b he hx hy;refine key (.bool b) (vJ hc he hx hy _ p q) ?_ (.bool b);have h2:(Op.equal t u v).run P w= .ok b w:=h1;rw [(Ea he hx hy ŕ hn2).1];simp [h2]
  ·cases he:bu c 20 t x y with
   | none=>rw [he] at h;cases h
   | some b=>rw [he] at h;simp only [T,H] at h;subst h;have h1:=mM hc hm.vars 20 9980 t x y u v b he hx hy;refine key (.bool (!b)) (vJ hc he hx hy _ p q) ?_ (.bool (!b));have h2:(Op.equal t u v).run P w= .ok b w:=h1;rw [(Ea he hx hy ŕ hn2).2];simp [h2]
  ·cases h
theorem Ky {P:γ} {c:aD} (hc:cb c P) {g:Gh} {bs:C af} {w:Q} (hm:Mem g bs w) {op:Θ} {t:J} {x r:AV} {u v:I} (hx:Rd g w x u) (h:Cn c t op x=A r) (p q:ρ) (hq:Kl q=L) (hv:v= .nilIface):
  di ((do pure (Next.value (<-(do eqGuard op t p q u v;binOp op t u v))):Sem φ).run P w) g w bs r:=by
 subst hv
 have Ŋ:q= .const .nilIface:=by
  unfold Kl at hq;split at hq
  ·rfl
  ·cases hq
 unfold Cn at h;split at h
 ·rename_i i hi;obtain ⟨info,đ⟩:=bS (hc.ty t i hi);split at h
  ·rename_i ms hd;have hu:P.underlying t=A (.interface ms):=by rw [đ.fM,hd]
   have hg: ∀u,(∃b,Rd g w (.il b) u)-> ∀op,(eqGuard op t p q u .nilIface).run P w= .ok () w:=by
    rintro u ⟨b,hb⟩ op;subst Ŋ;cases hb with
    | il b v h=>
     rcases h with ⟨_,rfl⟩ | ⟨_,t',p',rfl⟩
     ·cases op <;> simp [eqGuard]
     ·cases op <;> simp [eqGuard]
   have he: ∀b,Rd g w (.il b) u->(Op.equal t u .nilIface).run P w= .ok (!b) w:=by
    intro b hb;cases hb with
    | il b v h=>
     rcases h with ⟨rfl,rfl⟩ | ⟨rfl,t',p',rfl⟩
     ·have hn: ∀n,(Op.equalIn (n+1) t .nilIface .nilIface).run P w= .ok L w:=fun n=>by simp [Op.equalIn,E hu]
      exact hn 9999
     ·have hn: ∀n,(Op.equalIn (n+1) t (.iface t' p') .nilIface).run P w= .ok O w:=fun n=>by simp [Op.equalIn,E hu]
      exact hn 9999
   split at h
   ·rename_i b;cases h;refine .pure (v:= .bool (!b)) ?_ hm (.bool _);have h1:=hg u ⟨b,hx⟩ .eql;have h2:=he b hx
    have h3:binOp .eql t u .nilIface=(do pure (.bool (<-Op.equal t u .nilIface)):Sem I):=by
     cases hx with
     | il b v h=>rcases h with ⟨_,rfl⟩ | ⟨_,t',p',rfl⟩ <;> rfl
    rw [h3];simp [h1,h2]
   ·rename_i b;cases h;refine .pure (v:= .bool b) ?_ hm (.bool _);have h1:=hg u ⟨b,hx⟩ .neq;have h2:=he b hx
    have h3:binOp .neq t u .nilIface=(do pure (.bool (!(<-Op.equal t u .nilIface))):Sem I):=by
     cases hx with
     | il b v h=>rcases h with ⟨_,rfl⟩ | ⟨_,t',p',rfl⟩ <;> rfl
    rw [h3];simp [h1,h2]
   ·rename_i t' k n;cases h;cases hx with
    | mG=>
     subst Ŋ;refine .pure (v:= .bool O) ?_ hm (.bool _);have hn: ∀m,(Op.equalIn (m+1) t (.iface t' (.int k n)) .nilIface).run P w= .ok O w:=fun m=>by simp [Op.equalIn,E hu]
     have h2:(Op.equal t (.iface t' (.int k n)) .nilIface).run P w= .ok O w:=hn 9999;have h3:binOp .eql t (.iface t' (.int k n)) .nilIface=(do pure (.bool (<-Op.equal t (.iface t' (.int k n)) .nilIface)):Sem I):=rfl;rw [h3];simp [eqGuard,h2]
   ·rename_i t' k n;cases h;cases hx with
    | mG=>
     subst Ŋ;refine .pure (v:= .bool L) ?_ hm (.bool _);have hn: ∀m,(Op.equalIn (m+1) t (.iface t' (.int k n)) .nilIface).run P w= .ok O w:=fun m=>by simp [Op.equalIn,E hu]
     have h2:(Op.equal t (.iface t' (.int k n)) .nilIface).run P w= .ok O w:=hn 9999;have h3:binOp .neq t (.iface t' (.int k n)) .nilIface=(do pure (.bool (!(<-Op.equal t (.iface t' (.int k n)) .nilIface))):Sem I):=rfl;rw [h3];simp [eqGuard,h2]
   ·cases h
  ·cases h
 ·cases h
end Go.Am
namespace Go.Am
variable [Kn]
section
variable {P:γ} {g:Gh} {bs:C af} {w:Q}
theorem ML (hm:Mem g bs w) {op:UnOp} {x r:AV} {u:I} (hx:Rd g w x u) (h:P4 op x=A r):
  di ((do pure (Next.value (<-Op.unary op u)):Sem φ).run P w) g w bs r:=by
 unfold P4 at h;split at h
 ·obtain rfl:=hx.aU;simp only [mJ,H] at h;subst h;exact .pure (v:=_) (by simp only [Op.unary,Op.intArith];rfl) hm (.int _ _)
 ·obtain rfl:=hx.aU;simp only [mJ,H] at h;subst h;exact .pure (v:=_) (by simp only [Op.unary,Op.intBits];rfl) hm (.int _ _)
 ·obtain rfl:=hx.dL;cases h;exact .pure (v:=_) (by simp only [Op.unary];rfl) hm (.bool _)
 ·cases h
theorem G6 (hm:Mem g bs w) {x p q r:AV} {u v z:I} {e:dy} (hx:Rd g w x u) (hp:Rd g w p v) (hq:Rd g w q z) (h:xI x p q=A (r,e)):
  e= .none/\di ((do pure (Next.value (if<-asBool u then v else z)):Sem φ).run P w) g w bs r:=by
 unfold xI at h;split at h
 ·obtain rfl:=hx.dL;cases h;exact ⟨rfl,.pure (v:=v) (by simp [asBool]) hm hp⟩
 ·obtain rfl:=hx.dL;cases h;exact ⟨rfl,.pure (v:=z) (by simp [asBool]) hm hq⟩
 ·cases h
theorem zL (hm:Mem g bs w) {x r:AV} {u:I} {i:D} {e:dy} (hx:Rd g w x u) (h:kA x i=A (r,e)):
  e= .none/\di ((do pure (Next.value (<-Instr.extract u i)):Sem φ).run P w) g w bs r:=by
 unfold kA at h;split at h
 ·rename_i vs;obtain ⟨us,rfl,hn,h'⟩:=hx.Cy;cases hi:vs[i]? with
  | none=>rw [hi] at h;cases h
  | some y=>
   rw [hi] at h;cases h
   have hlt:i<us.size:=by
    rw [hn];rcases μ i (É vs) with h' | h'
    ·exact h'
    ·rw [V h'] at hi;cases hi
   exact ⟨rfl,.pure (v:=us[i]) (by simp [Instr.extract,hlt]) hm (h' i r _ hi (by simp [hlt]))⟩
 ·cases h
theorem Eb {c:aD} (hc:cb c P) (hm:Mem g bs w) {t:J} {x r:AV} {u:I} {e:dy} {id:D} (hx:Rd g w x u) (h:xL c t x=A (r,e)) {bs':C af} (he:e.on bs id=A bs'):
  di ((do pure (Next.value (<-Instr.makeInterface t u)):Sem φ).run P w) g w bs' r:=by
 unfold xL at h;split at h
 ·rename_i i hi;obtain ⟨info,đ⟩:=bS (hc.ty t i hi);split at h
  ·rename_i k' k n hd;cases h;cases he;obtain rfl:=hx.aU;have hu:P.underlying t=A (.int k'):=by rw [đ.fM,hd]
   exact .pure (v:= .iface t (.int k n)) (by simp [Instr.makeInterface,E hu]) hm (.mG _ _ _)
  ·cases h
 ·cases h
theorem xQ (hm:Mem g bs w) {x r:AV} {e:dy} {o:ε} {a:Act} {y:ρ} (ho:o.op= .nilCheck y) (hx:Rd g w x (a.eval y)) (h:iI x=A (r,e)):
  e= .none/\di ((execOp a.eval o).run P w) g w bs r:=by
 unfold iI at h;split at h
 ·cases h;obtain ⟨b,_,hv⟩:=hx.g7;exact ⟨rfl,.pure (v:=a.eval y) (by simp [execOp,ho,hv]) hm hx⟩
 ·cases h;generalize hy:a.eval y=v at hx;cases hx with
  | dB cs b off Ă hp h'=>exact ⟨rfl,.pure (v:=_) (by simp only [execOp,ho,hy];rfl) hm (.dB _ b off Ă hp h')⟩
 ·cases h;generalize hy:a.eval y=v at hx;cases hx with
  | fn f cs ds vs us hn Š h' š=>exact ⟨rfl,.pure (v:=_) (by simp only [execOp,ho,hy];rfl) hm (.fn _ _ _ vs us hn Š h' š)⟩
 ·cases h
theorem P8 (s:C Α) (n:D):(ByteArray.mk s.toArray)[n]?=s[n]?:=by
 by_cases h:n<É s
 ·rw [ByteArray.getElem?_lt' _ _ (by show n<s.toArray.size;simpa using h),δ h];rfl
 ·rw [ByteArray.getElem?_ge' _ _ (by show¬ n<s.toArray.size;simpa using h),V (by omega)]
theorem Ec {c:aD} (hc:cb c P) (hm:Mem g bs w) {t:J} {x y r:AV} {u v:I} {e:dy} (hx:Rd g w x u) (hy:Rd g w y v) (h:rK c (c.ti t) x y=A (r,e)):
  e= .none/\di ((do pure (Next.value (<-Instr.index t u v)):Sem φ).run P w) g w bs r:=by
 unfold rK at h;split at h
 ·rename_i i k n Č;obtain ⟨info,hi⟩:=bS (hc.ty t i Č);obtain rfl:=hy.aU;split at h
  ·rename_i s hdesc;obtain rfl:=hx.cS;split at h
   ·rename_i hn;split at h
    ·rename_i b hb;cases h;refine ⟨rfl,.pure (v:= .int .u8 b.toNat) ?_ hm (.int _ _)⟩;simp [Instr.index,asIntOf,E (hdesc▸hi.fM),hn,P8,hb]
    ·cases h
   ·cases h
  ·rename_i len el cs hdesc;obtain ⟨vs,rfl,Ć,h'⟩:=hx.eI;split at h
   ·rename_i hn;split at h
    ·rename_i j hj;obtain ⟨ē,he⟩:=bS (hc.ty el j hj);cases hp:je j cs (n.toNat*j.size) with
     | none=>rw [hp] at h;cases h
     | some p=>rw [hp] at h;cases h;obtain ⟨z,hz,rz⟩:=D9 (P:=P) he Ć h' hp;refine ⟨rfl,.pure (v:=z) ?_ hm rz⟩;simp [Instr.index,asIntOf,E (hdesc▸hi.fM),hn,sizeOf,typeInfo,he.info,he.size,hz]
    ·cases h
   ·cases h
  ·cases h
 ·cases h
theorem xR {fs:R Field} {f:D} {ty:J} {o n:D} (h:(fieldsOf P (.struct fs))[f]?=A (ty,o,n)):
  ∃fl,fs[f]?=A fl/\fl.type=ty/\fl.offset=o/\((P.info? ty).map (·.size)).getD 0=n:=by
 simp only [fieldsOf,θ,π] at h;cases hf:fs[f]? with
 | none=>rw [hf] at h;cases h
 | some fl=>rw [hf] at h;simp only [T,H,Prod.mk.injEq] at h;obtain ⟨h1,h2,h3⟩:=h;exact ⟨fl,rfl,h1,h2,by rw [<-h1];exact h3⟩
theorem Ed {c:aD} (hc:cb c P) (hm:Mem g bs w) {t:J} {x r:AV} {u:I} {f:D} {e:dy} (hx:Rd g w x u) (h:rJ c (c.ti t) x f=A (r,e)):
  e= .none/\di ((do pure (Next.value (<-Instr.field t u f)):Sem φ).run P w) g w bs r:=by
 unfold rJ at h;split at h
 ·rename_i i cs Č;obtain ⟨info,hi⟩:=bS (hc.ty t i Č);obtain ⟨vs,rfl,hn,h'⟩:=hx.eI;split at h
  ·rename_i fs hdesc;split at h
   ·rename_i ty o n hf;rw [hi.fields,hdesc] at hf;obtain ⟨fl,ŋ,rfl,rfl,_⟩:=xR hf;cases hp:jc c fl.type cs fl.offset with
    | none=>rw [hp] at h;cases h
    | some p=>rw [hp] at h;cases h;obtain ⟨z,hz,rz⟩:=iK hc hn h' hp;exact ⟨rfl,.pure (v:=z) (by simp [Instr.field,E (hdesc▸hi.fM),ŋ,asAgg,hz]) hm rz⟩
   ·cases h
  ·cases h
 ·cases h
def ly (g:Gh) (w:Q) (b o:D) (cs:C AV):Prop:= ∀(j:D) (x:AV),cs[j]?=A x-> ∃v,w.cell? ⟨b,o+j,F⟩=A v/\Rd g w x v
def sX (g:Gh) (w:Q) (b o:D) (cs:C AV):Prop:= ∀(j:D) (x:AV),cs[j]?=A x-> ∃v,w.cell? ⟨b,o+j,F⟩=A v/\Rd g w x v/\v.oneCell'=L
theorem sX.cells {g:Gh} {w:Q} {b o:D} {cs:C AV} (h:sX g w b o cs):ly g w b o cs:=fun j x hx=>let ⟨v,h1,h2,_⟩:=h j x hx;⟨v,h1,h2⟩
theorem Ee {t:J} {i:TI} {info:TypeInfo} (hi:G4 P t i info) {b o off:D} {cs:C AV} {p:AV} (ć:ly g w b o cs) (hp:je i cs off=A p):
  ∃u,(loadVar t ⟨b,o+off,F⟩).run P w= .ok u w/\Rd g w p u:=by
 unfold je at hp;have hd:=hi.agg;cases ha:i.agg with
 | true=>
  rw [ha] at hp hd;simp only at hp;split at hp
  ·rename_i hle;simp only [H] at hp;subst hp
   have hex: ∀j,j<i.size-> ∃v,w.cell? ⟨b,o+off+j,F⟩=A v/\ ∀x,cs[off+j]?=A x->Rd g w x v:=fun j hj=>by
    have hlt:off+j<É cs:=by omega
    obtain ⟨v,hv,rv⟩:=ć (off+j) cs[off+j] (by simp [hlt]);refine ⟨v,by rw [σ];exact hv,fun x hx=> ?_⟩;rw [δ hlt] at hx;cases hx;exact rv
   have hf: ∃f:D->I,∀j,j<i.size->w.cell? ⟨b,o+off+j,F⟩=A (f j)/\ ∀x,cs[off+j]?=A x->Rd g w x (f j):=
    ⟨fun j=>if h:j<i.size then (hex j h).choose else undef,fun j hj=>by simp only [hj,dif_pos];exact (hex j hj).choose_spec⟩
   obtain ⟨f,hf⟩:=hf;have hl:=run_loadCells (P:=P) w ⟨b,o+off,F⟩ i.size f (fun j hj=>by rw [addr_add];exact (hf j hj).1);refine ⟨.agg ((ϊ i.size).map f).toArray,?_,.agg _ _ (by simp;omega) (fun j x v hx hv=> ?_)⟩
   ·cases hdesc:i.desc <;> rw [hdesc] at hd <;> simp only [G3,Λ] at hd <;>
     simp [loadVar,isAgg,E (hdesc▸hi.fM),sizeOf,typeInfo,hi.info,hi.size,hl]
   ·rw [η] at hx;split at hx
    ·rename_i hj;rw [Z] at hx;simp [hj] at hv;rw [<-hv];exact (hf j hj).2 x hx
    ·cases hx
  ·cases hp
 | false=>
  rw [ha] at hp hd;simp only at hp;obtain ⟨v,hv,rv⟩:=ć off p hp;refine ⟨v,?_,rv⟩
  cases hdesc:i.desc <;> rw [hdesc] at hd <;> simp only [G3,ψ] at hd <;>
   simp [loadVar,isAgg,E (hdesc▸hi.fM),hv]
theorem Rd.Ef {cs:C AV} {v:I} (h:Rd g w (.dB cs) v): ∃b off,v= .pointer (A ⟨b,off,F⟩)/\ly g w b off cs/\ ∀(j:D) (x:AV),cs[j]?=A x->x.plain=L/\g.S b (off+j):=by
 cases h with
 | dB _ b off Ă hp h=>exact ⟨b,off,rfl,fun j x hx=>⟨Ă j,(hp j x hx).2.2,h j x hx⟩,fun j x hx=>⟨(hp j x hx).1,(hp j x hx).2.1⟩⟩
theorem Rd.I6 {cs:C AV} {b off:D} (h:ly g w b off cs) (hp: ∀(j:D) (x:AV),cs[j]?=A x->x.plain=L/\g.S b (off+j)):Rd g w (.dB cs) (.pointer (A ⟨b,off,F⟩)):=by
 refine .dB cs b off (fun j=>if hj:j<É cs then (h j cs[j] (by simp [hj])).choose else undef) (fun j x hx=> ?_) (fun j x hx=> ?_)
 all_goals
  have hj:j<É cs:=by
   rcases μ j (É cs) with h' | h'
   ·exact h'
   ·rw [V h'] at hx;cases hx
  have he:cs[j]=x:=by rw [δ hj] at hx;exact Option.some.inj hx
  have hs:=(h j cs[j] (by simp [hj])).choose_spec;simp only [hj,dif_pos]
 ·exact ⟨(hp j x hx).1,(hp j x hx).2,hs.1⟩
 ·rw [<-he];exact hs.2
theorem Rd.sY (hm:Mem g bs w) {k n i off:D} {v:I} (h:Rd g w (.cZ k n i off) v) {sh:Hd} {sz:D} {es:C AV} (hb:af.at bs k= .sl sh sz es) (hn:n=É es) (h0:n≠0):
  ∃b cap,g.e k= .sl n sz (A (b,cap))/\v= .pointer (A ⟨b,i*sz+off,F⟩)/\oC g w sh sz es b cap:=by
 obtain ⟨loc,he,hr⟩:=hm.sl k sh sz es hb;cases h with
 | cZ _ _ _ _ m Ĝ ķ _ h1 h hle hv=>
  rw [he] at h;cases h;rcases hv hn with ⟨b,cap,rfl,rfl⟩ | ⟨_,h2,_⟩
  ·exact ⟨b,cap,by rw [he,hn],rfl,hr.2⟩
  ·exact ζ h2 h0
theorem xS (hm:Mem g bs w) {x r:AV} {u:I} {o:D} {e:dy} (hx:Rd g w x u) (h:ow x o bs=A (r,e)):
  e= .none/\ ∃b off,u= .pointer (A ⟨b,off,F⟩)/\Rd g w r (.pointer (A ⟨b,off+o,F⟩)):=by
 unfold ow at h;split at h
 ·cases h;obtain ⟨b,he,rfl⟩:=hx.g7;exact ⟨rfl,b,_,rfl,.ptr _ _ b he⟩
 ·rename_i k n i off;split at h
  ·rename_i sh sz es hb;split at h
   ·rename_i hn;cases h;obtain ⟨b,cap,he,rfl,_⟩:=hx.sY hm hb hn.1 (by omega);refine ⟨rfl,b,_,rfl,.cZ k n i (off+o) n sz (A (b,cap)) _ rfl he (W _) (fun _=> .inl ⟨b,cap,rfl,by rw [σ]⟩)⟩
   ·cases h
  ·cases h
 ·cases h;obtain ⟨b,off,rfl,ć,hp⟩:=hx.Ef;refine ⟨rfl,b,off,rfl,Rd.I6 (fun j x hx=> ?_) (fun j x hx=> ?_)⟩
  ·rw [Z] at hx;have:=ć _ _ hx
   rwa [<-σ] at this
  ·rw [Z] at hx;have:=hp _ _ hx
   rwa [<-σ] at this
 ·cases h
theorem wP {c:aD} (hc:cb c P) (hm:Mem g bs w) {t:J} {x r:AV} {u:I} {f:D} {e:dy} (hx:Rd g w x u) (h:c9 (c.ti t) x f bs=A (r,e)):
  e= .none/\di ((do pure (Next.value (<-Instr.fieldAt t u f)):Sem φ).run P w) g w bs r:=by
 unfold c9 at h;split at h
 ·rename_i i Č;obtain ⟨info,hi⟩:=bS (hc.ty t i Č);split at h
  ·rename_i fs hdesc;split at h
   ·rename_i ty o n hf;rw [hi.fields,hdesc] at hf;obtain ⟨fl,ŋ,rfl,rfl,Ć⟩:=xR hf;split at h
    ·cases h
    ·rename_i n';obtain ⟨he,b,off,rfl,rr⟩:=xS hm hx h;refine ⟨he,.pure (v:=_) ?_ hm rr⟩;cases đ:P.info? fl.type with
     | none=>rw [đ] at Ć;simp at Ć
     | some inf=>rw [đ] at Ć;simp only [T,Φ] at Ć;simp [Instr.fieldAt,E (hdesc▸hi.fM),ŋ,Instr.sureAddr,fieldPlace,sizeOf,typeInfo,đ,Ć,addr_add]
   ·cases h
  ·cases h
 ·cases h
structure dE (g:Gh) (w:Q) (sz:D) (es:C AV) (a:B ώ) (cap:D):Prop where
 at_:es≠ []-> ∃b off,a=A ⟨b,off,F⟩/\ ∀(i:D) (e:AV),es[i]?=A e->sX g w b (off+i*sz) e.cells
 ok: ∀(i:D) (e:AV),es[i]?=A e->e.plain=L/\e.cells.length=sz
 nil:a=none->es= []/\cap=0
 cap:É es<=cap
theorem Rd.G7 {nl:B M} {sz:D} {es:C AV} {v:I} (h:Rd g w (.ah nl sz es) v):
  ∃a cap,v= .slice a (É es) cap/\dE g w sz es a cap/\(∀x,nl=A x->a.isNone=x)/\(∀b off,a=A ⟨b,off,F⟩-> ∀(i j:D) (e x:AV),es[i]?=A e->e.cells[j]?=A x->g.S b (off+i*sz+j)):=by
 cases h with
 | ah _ _ _ a cap b off Ă Ĉ ĉ ą ha hp hc h=>
  refine ⟨a,cap,rfl,⟨fun hne=>⟨b,off,ha hne,fun i e he j x hx=>⟨Ă i j,(hc i j e x he hx).2.1,h i j e x he hx,(hc i j e x he hx).2.2⟩⟩,hp,ĉ,ą⟩,Ĉ,fun b' off' Ĥ i j e x he hx=> ?_⟩;have hne:es≠ []:=by intro h0;rw [h0] at he;cases he
  have:=ha hne;rw [Ĥ] at this;simp only [H,Addr.mk.injEq] at this;rw [this.1,this.2.1];exact (hc i j e x he hx).1
omit [Kn] in
theorem al {α:Type} {l:C α} {i:D} {x:α} (h:l[i]?=A x):i<É l:=by
 rcases μ i (É l) with h' | h'
 ·exact h'
 ·rw [V h'] at h;cases h
theorem oC.xa {sh:Hd} {sz:D} {es:C AV} {b cap:D} (h:oC g w sh sz es b cap) (hok: ∀(i:D) (e:AV),es[i]?=A e->e.plain=L/\e.cells.length=sz) {i:D} {e:AV} (he:es[i]?=A e):
  sX g w b (i*sz) e.cells:=by
 obtain ⟨c,ty,fz,hh,Ć,ą,hf,ć,_⟩:=h;intro j x hx;have hi:=al he;have hj:=al hx;rw [(hok i e he).2] at hj
 have hlt:i*sz+j<c.size:=by rw [Ć];have:(i+1)*sz<=cap*sz:=τ _ (by omega);rw [ι] at this;omega
 have:=ć i j e x _ he hx (show c[i*sz+j]?=A c[i*sz+j] by simp [hlt]);exact ⟨c[i*sz+j],by rw [eT hh];simp [hlt],this.1,this.2⟩
theorem Rd.kD (hm:Mem g bs w) {k n:D} {v:I} (h:Rd g w (.aC k n) v) {sh:Hd} {sz:D} {es:C AV} (hb:af.at bs k= .sl sh sz es) (hn:n=É es):
  ∃a cap,v= .slice a (É es) cap/\dE g w sz es a cap/\ ∃loc,g.e k= .sl n sz loc/\mL g w sh sz es loc/\((∃b,loc=A (b,cap)/\a=A ⟨b,0,F⟩)\/(loc=F/\es= []/\cap=0/\a=F)):=by
 obtain ⟨loc,he,hr⟩:=hm.sl k sh sz es hb;cases h with
 | aC _ _ m Ĝ ķ _ h1 h hle hv=>
  rw [he] at h;cases h;rcases hv hn with ⟨b,cap,rfl,rfl⟩ | ⟨rfl,h0,rfl⟩
  ·refine ⟨A ⟨b,0,F⟩,cap,by rw [hn],⟨fun _=>⟨b,0,rfl,fun i e Ō=> ?_⟩,hr.1,(fun h=>by cases h),?_⟩,A (b,cap),by rw [he,hn],hr,.inl ⟨b,rfl,rfl⟩⟩
   ·rw [Ζ];exact oC.xa hr.2 hr.1 Ō
   ·obtain ⟨_,_,_,_,_,ą,_⟩:=hr.2;omega
  ·have ĸ:es= []:=by cases es with
    | nil=>rfl
    | cons x l=>simp at hn;omega
   subst ĸ;exact ⟨F,0,by simp,⟨fun h=>ζ rfl h,hr.1,fun _=>⟨rfl,rfl⟩,W _⟩,F,by rw [he,hn],hr,.inr ⟨rfl,rfl,rfl,rfl⟩⟩
theorem Rd.rO (hm:Mem g bs w) {k n lo hi:D} {v:I} (h:Rd g w (.gO k n lo hi) v) {sh:Hd} {sz:D} {es:C AV} (hb:af.at bs k= .sl sh sz es) (hn:n=É es):
  ∃b cap a,v= .slice (A a) (hi-lo) (cap-lo)/\(a=⟨b,lo*sz,F⟩\/cap=lo)/\g.e k= .sl n sz (A (b,cap))/\mL g w sh sz es (A (b,cap))/\dE g w sz es (A ⟨b,0,F⟩) cap:=by
 obtain ⟨loc,he,hr⟩:=hm.sl k sh sz es hb;cases h with
 | gO _ _ _ _ m Ĝ ķ _ h1 h hle hv=>
  rw [he] at h;cases h;obtain ⟨b,cap,a,rfl,rfl,ha⟩:=hv hn;refine ⟨b,cap,a,rfl,ha,by rw [he,hn],hr,fun _=>⟨b,0,rfl,fun i e Ō=> ?_⟩,hr.1,(fun h=>by cases h),?_⟩
  ·rw [Ζ];exact oC.xa hr.2 hr.1 Ō
  ·obtain ⟨_,_,_,_,_,ą,_⟩:=hr.2;omega
omit [Kn] in
theorem Eg {es:C AV} {h l i:D} {e:AV} (he:((es.take h).drop l)[i]?=A e):es[l+i]?=A e:=by
 rw [Z,η] at he;split at he
 ·exact he
 ·cases he
theorem dE.part {sz:D} {es:C AV} {b cap lo hi:D} {a:ώ} (h:dE g w sz es (A ⟨b,0,F⟩) cap) (ha:a=⟨b,lo*sz,F⟩\/cap=lo) (Ĩ:lo<=hi) (hh:hi<=É es):
  ((es.take hi).drop lo).length=hi-lo/\dE g w sz ((es.take hi).drop lo) (A a) (cap-lo):=by
 have Ċ:((es.take hi).drop lo).length=hi-lo:=by simp;omega
 have ą:=h.cap;refine ⟨Ċ,fun hne=> ?_,fun i e he=>h.ok _ _ (Eg he),(fun h=>by cases h),by omega⟩;have ō:0<hi-lo:=by rw [<-Ċ];exact List.length_pos_iff.2 hne
 rcases ha with rfl | ha
 ·refine ⟨b,lo*sz,rfl,fun i e he=> ?_⟩;have ĸ:es≠ []:=by intro h0;rw [h0] at hne;simp at hne
  obtain ⟨b',off,ha,ć⟩:=h.at_ ĸ;cases ha;have:=ć _ _ (Eg he)
  rwa [show 0+(lo+i)*sz=lo*sz+i*sz by rw [ι];omega] at this
 ·omega
theorem o6 (hm:Mem g bs w) {x:AV} {v:I} {sz:D} {es:C AV} (hx:Rd g w x v) (h:elems bs x=A (sz,es)): ∃a cap,v= .slice a (É es) cap/\dE g w sz es a cap:=by
 unfold elems at h;split at h
 ·cases h;obtain ⟨a,cap,h1,h2,_⟩:=hx.G7;exact ⟨a,cap,h1,h2⟩
 ·cases h;cases hx with
  | cG _ a=>exact ⟨a,0,rfl,⟨fun h=>ζ rfl h,fun i e h=>by simp at h,fun _=>⟨rfl,rfl⟩,W _⟩⟩
 ·split at h
  ·rename_i hb;split at h
   ·rename_i hn;cases h;obtain ⟨a,cap,h1,h2,_⟩:=hx.kD hm hb hn;exact ⟨a,cap,h1,h2⟩
   ·cases h
  ·cases h
 ·split at h
  ·rename_i hb;split at h
   ·rename_i hn;cases h;obtain ⟨b,cap,a,rfl,ha,_,_,Ą⟩:=hx.rO hm hb hn.1;obtain ⟨h1,h2⟩:=Ą.part ha hn.2.1 (by omega);exact ⟨A a,_,by rw [h1],h2⟩
   ·cases h
  ·cases h
 ·cases h
theorem Kz {c:aD} (hc:cb c P) (hm:Mem g bs w) {t ty:J} {i:TI} (Č:c.ti t=A i) {x r:AV} {u:I} {e:dy} (hx:Rd g w x u) (h:rI i.desc x bs=A (r,e)):
  e= .none/\ ∃v,(Builtin.len_ #[t] ty #[u]).run P w= .ok v w/\Rd g w r v:=by
 obtain ⟨info,hi⟩:=bS (hc.ty t i Č);unfold rI at h;split at h
 ·rename_i hdesc;split at h
  ·cases h;obtain rfl:=hx.cS;exact ⟨rfl,_,by simp [Builtin.len_,E (hdesc▸hi.fM)];rfl,by simp only [goInt,ByteArray.size,Ο];exact .int _ _⟩
  ·cases h
 ·rename_i hdesc;split at h
  ·rename_i sz es Ą;cases h;obtain ⟨a,cap,rfl,_⟩:=o6 hm hx Ą;exact ⟨rfl,_,by simp [Builtin.len_,E (hdesc▸hi.fM)];rfl,.int _ _⟩
  ·cases h
 ·rename_i n el hdesc;cases h;exact ⟨rfl,_,by simp [Builtin.len_,E (hdesc▸hi.fM)];rfl,.int _ _⟩
 ·cases h
end
end Go.Am
namespace Go.Am
variable [Kn]
section
variable {P:γ} {g:Gh} {bs:C af} {w:Q}
theorem wQ {c:aD} (hc:cb c P) (hm:Mem g bs w) {t:J} {x y r:AV} {u v:I} {e:dy} (hx:Rd g w x u) (hy:Rd g w y v) (h:eG c (c.ti t) x y bs=A (r,e)):
  e= .none/\di ((do pure (Next.value (<-Instr.indexAt t u v)):Sem φ).run P w) g w bs r:=by
 unfold eG at h;split at h
 ·rename_i i k n Č;obtain ⟨info,hi⟩:=bS (hc.ty t i Č);obtain rfl:=hy.aU;split at h
  ·rename_i len el hdesc;split at h
   ·rename_i hn;split at h
    ·rename_i j hj;obtain ⟨ē,he⟩:=bS (hc.ty el j hj);obtain ⟨h1,b,off,rfl,rr⟩:=xS hm hx h;refine ⟨h1,.pure (v:=_) ?_ hm rr⟩;simp [Instr.indexAt,asIntOf,E (hdesc▸hi.fM),Instr.sureAddr,hn,sizeOf,typeInfo,he.info,he.size,addr_add]
    ·cases h
   ·cases h
  ·rename_i el hdesc;split at h
   ·rename_i j hj;obtain ⟨ē,he⟩:=bS (hc.ty el j hj);split at h
    ·rename_i nl sz es;split at h
     ·rename_i hn;split at h
      ·rename_i z hz;cases h;obtain ⟨a,cap,rfl,Ą,_,hS⟩:=hx.G7;have hne:es≠ []:=by intro h0;rw [h0] at hz;cases hz
       obtain ⟨b,off,rfl,ć⟩:=Ą.at_ hne;have hlt:=al hz;refine ⟨rfl,.pure (v:= .pointer (A ⟨b,off+n.toNat*j.size,F⟩)) ?_ hm (Rd.I6 (by rw [<-hn.2];exact (ć _ _ hz).cells) (fun l x hx=>⟨?_,by rw [<-hn.2];exact hS b off rfl _ _ _ _ hz hx⟩))⟩
       ·have:n<(É es:Int):=by omega
        simp [Instr.indexAt,asIntOf,E (hdesc▸hi.fM),hn.1,this,sizeOf,typeInfo,he.info,he.size,addr_add]
       ·have hp:=(Ą.ok _ _ hz).1
        cases z <;> simp only [AV.cells] at hx <;> first
         | (simp only [AV.plain] at hp;exact bZ hp hx)
         | (cases l with
            | zero => simp at hx; rw [<- hx]; exact hp
            | succ l => simp at hx)
      ·cases h
     ·cases h
    ·rename_i k m;split at h
     ·rename_i sh sz es hb;split at h
      ·rename_i hn;cases h;obtain ⟨hn0,Ĉ,Ľ,Ć⟩:=hn;obtain ⟨a,cap,rfl,Ą,loc,ċ,hr,hl⟩:=hx.kD hm hb Ĉ;have hne:es≠ []:=by intro h0;rw [h0] at Ĉ;simp at Ĉ;omega
       rcases hl with ⟨b,rfl,rfl⟩ | ⟨_,h0,_⟩
       ·refine ⟨rfl,.pure (v:= .pointer (A ⟨b,n.toNat*sz+0,F⟩)) ?_ hm (.cZ k m n.toNat 0 m sz (A (b,cap)) _ rfl ċ (W _) (fun _=> .inl ⟨b,cap,rfl,rfl⟩))⟩;have:n<(É es:Int):=by omega
        simp [Instr.indexAt,asIntOf,E (hdesc▸hi.fM),hn0,this,sizeOf,typeInfo,he.info,he.size,addr_add,Ć]
       ·exact ζ h0 hne
      ·cases h
     ·cases h
    ·rename_i k m lo Ŏ;split at h
     ·rename_i sh sz es hb;split at h
      ·rename_i hn;cases h;obtain ⟨hn0,Ĉ,hhm,Ľ,Ć⟩:=hn;obtain ⟨b,cap,a,rfl,ha,ċ,hr,Ą⟩:=hx.rO hm hb Ĉ;have ą:=Ą.cap;rcases ha with rfl | ha
       ·refine ⟨rfl,.pure (v:= .pointer (A ⟨b,(lo+n.toNat)*sz+0,F⟩)) ?_ hm (.cZ k m (lo+n.toNat) 0 m sz (A (b,cap)) _ rfl ċ (W _) (fun _=> .inl ⟨b,cap,rfl,rfl⟩))⟩;have:n<((Ŏ-lo:D):Int):=by omega
        simp [Instr.indexAt,asIntOf,E (hdesc▸hi.fM),hn0,this,sizeOf,typeInfo,he.info,he.size,addr_add,Ć,ι]
       ·omega
      ·cases h
     ·cases h
    ·cases h
   ·cases h
  ·cases h
 ·cases h
theorem KA {sh:Hd} {sz:D} {es:C AV} {b cap j:D} {i:TI} {el:AV} (ĥ:oC g w sh sz es b cap) (h:ly g w b (j*sz) el.cells) (Ą:es[j]?=A el):ly g w b (j*sz) (linked sh j i el.cells):=by
 unfold linked;split
 ·rename_i i' j' k' n hl;split
  ·split
   ·rename_i Ţ;subst Ţ;intro q x hx;rw [Γ] at hx;by_cases hq:j'=q
    ·subst hq;rw [Y rfl] at hx;split at hx
     ·rename_i hlt;cases hx;obtain ⟨v,hv,_⟩:=h j' _ (δ hlt);obtain ⟨c,ty,fz,h1,h2,h3,h4,h5,h6,h7⟩:=ĥ;refine ⟨v,hv,h7 _ _ _ _ hl v ?_ (List.getElem?_eq_some_iff.1 Ą).1⟩;rw [eT h1] at hv;exact hv
     ·cases hx
    ·rw [U hq] at hx;exact h q x hx
   ·exact h
  ·exact h
 ·exact h
theorem G8 {c:aD} (hc:cb c P) (hm:Mem g bs w) {t:J} {x r:AV} {u:I} {e:dy} (hx:Rd g w x u) (h:oT (c.ti t) x bs=A (r,e)):
  e= .none/\di ((do pure (Next.value (<-Instr.loadAt t u)):Sem φ).run P w) g w bs r:=by
 unfold oT at h;split at h
 ·rename_i i Č;obtain ⟨info,hi⟩:=bS (hc.ty t i Č)
  have fin: ∀{b o off:D} {cs:C AV} {p:AV},ly g w b o cs->je i cs off=A p->u= .pointer (A ⟨b,o+off,F⟩)->di ((do pure (Next.value (<-Instr.loadAt t u)):Sem φ).run P w) g w bs p:=by intro b o off cs p ć hp hu;obtain ⟨z,hz,rz⟩:=Ee (P:=P) hi ć hp;subst hu;exact .pure (v:=z) (by simp [Instr.loadAt,Instr.sureAddr,hz]) hm rz
  split at h
  ·rename_i k off;split at h
   ·rename_i ty cs hb;cases hp:je i cs off with
    | none=>rw [hp] at h;cases h
    | some p=>
     rw [hp] at h;cases h;obtain ⟨b,ċ,hu⟩:=hx.g7;obtain ⟨b',ı,cc,hh,hn,ć⟩:=hm.var k ty cs hb;rw [ċ] at ı;cases ı;refine ⟨rfl,fin (o:=0) (b:=b) (fun j x hx=> ?_) hp (by rw [hu,Ζ])⟩;have hj:=al hx;have ł:j<cc.size:=by omega
     exact ⟨cc[j],by rw [Ζ,eT hh];simp [ł],ć j x _ hx (by simp [ł])⟩
   ·cases h
  ·rename_i k n j off;split at h
   ·rename_i sh sz es hb;split at h
    ·rename_i hn;split at h
     ·rename_i el Ą;cases hp:je i (linked sh j i el.cells) off with
      | none=>rw [hp] at h;cases h
      | some p=>rw [hp] at h;cases h;obtain ⟨b,cap,ċ,hu,ĥ⟩:=hx.sY hm hb hn (by have:=al Ą;omega);obtain ⟨loc,ı,hr⟩:=hm.sl k sh sz es hb;exact ⟨rfl,fin (KA ĥ (ĥ.xa hr.1 Ą).cells Ą) hp hu⟩
     ·cases h
    ·cases h
   ·cases h
  ·rename_i cs;cases hp:je i cs 0 with
   | none=>rw [hp] at h;cases h
   | some p=>rw [hp] at h;cases h;obtain ⟨b,off,hu,ć,_⟩:=hx.Ef;exact ⟨rfl,fin ć hp hu⟩
  ·cases h
 ·cases h
theorem xb {t:Env} {a:Act} (ht:gv g w t a) (x:B ρ):match x.map (ev t),x.map a.eval with | none,none=>Ϗ | some x,A v=>Rd g w x v | _,_=>Κ:=by
 cases x with
 | none=>trivial
 | some x=>exact ht.ev x
theorem str_slice (s:C Α) (l h:D):(ByteArray.mk s.toArray).extract l h=ByteArray.mk ((s.take h).drop l).toArray:=by rw [ByteArray.extract_mk,List.drop_take]
theorem kE {lo hi:B AV} {vl vh:B I} {len cap h l:D} (isSlice:M) (Ď:match lo,vl with | none,none=>Ϗ | some x,A v=>Rd g w x v | _,_=>Κ) (ĝ:match hi,vh with | none,none=>Ϗ | some x,A v=>Rd g w x v | _,_=>Κ)
  (hb:dw hi len len=A h) (lb:dw lo 0 h=A l) (hc:len<=cap):(Instr.sliceBounds isSlice len cap vl vh F).run P w= .ok (l,h,cap) w/\l<=h/\h<=len:=by
 have hh:h<=len:=by
  unfold dw at hb;split at hb
  ·cases hb;exact W _
  ·split at hb
   ·cases hb;omega
   ·cases hb
  ·cases hb
 have hl:l<=h:=by
  unfold dw at lb;split at lb
  ·cases lb;exact Χ _
  ·split at lb
   ·cases lb;omega
   ·cases lb
  ·cases lb
 refine ⟨?_,hl,hh⟩
 have h1: ∀z code,vh=A z->(Instr.sliceBound z cap code).run P w= .ok h w:=fun z code hz=>by
  subst hz;unfold dw at hb;split at hb
  ·exact ĝ.elim
  ·obtain rfl:=Rd.aU ĝ;split at hb
   ·rename_i ė;cases hb;have h0:=ė.1;have h3:=Int.le_trans ė.2 (show (len:Int)<=(cap:Int) by omega);simp [Instr.sliceBound,asIntOf,h0,h3]
   ·cases hb
  ·cases hb
 have ţ:vh=none->h=len:=fun hz=>by
  subst hz;unfold dw at hb;split at hb
  ·cases hb;rfl
  ·exact ĝ.elim
  ·cases hb
 have h2: ∀z code,vl=A z->(Instr.sliceBound z h code).run P w= .ok l w:=fun z code hz=>by
  subst hz;unfold dw at lb;split at lb
  ·exact Ď.elim
  ·obtain rfl:=Rd.aU Ď;split at lb
   ·rename_i ė;cases lb;simp [Instr.sliceBound,asIntOf,ė]
   ·cases lb
  ·cases lb
 have Ŗ:vl=none->l=0:=fun hz=>by
  subst hz;unfold dw at lb;split at lb
  ·cases lb;rfl
  ·exact Ď.elim
  ·cases lb
 cases vh with
 | none=>
  have:=ţ rfl;subst this;cases vl with
  | none=>have:=Ŗ rfl;subst this;simp [Instr.sliceBounds]
  | some z=>simp [Instr.sliceBounds,h2 z _ rfl]
 | some y=>
  cases vl with
  | none=>have:=Ŗ rfl;subst this;simp [Instr.sliceBounds,h1 y _ rfl]
  | some z=>simp [Instr.sliceBounds,h1 y _ rfl,h2 z _ rfl]
theorem CD {es:C AV} {h l i:D} {e:AV} (he:((es.take h).drop l)[i]?=A e):es[l+i]?=A e:=by
 rw [Z,η] at he;split at he
 ·exact he
 ·cases he
theorem sZ {sz:D} {es:C AV} {a:B ώ} {cap h l:D} (nl:B M) (Ą:dE g w sz es a cap) (Ĉ: ∀x,nl=A x->a.isNone=x)
  (hS: ∀b off,a=A ⟨b,off,F⟩-> ∀(i j:D) (e x:AV),es[i]?=A e->e.cells[j]?=A x->g.S b (off+i*sz+j)) (Ĩ:l<=h) (hh:h<=É es):
  Rd g w (.ah nl sz ((es.take h).drop l)) (.slice (if cap=l then a else a.map (·.add (l*sz))) (h-l) (cap-l)):=by
 have Ċ:((es.take h).drop l).length=h-l:=by simp;omega
 have ą:=Ą.cap;by_cases hne:(es.take h).drop l= []
 ·have:h-l=0:=by rw [<-Ċ,hne];rfl
  have h2:=Rd.ah (g:=g) (w:=w) nl sz [] (if cap=l then a else a.map (·.add (l*sz))) (cap-l) 0 0 (fun _ _=>undef) (fun x hx=>by rw [<-Ĉ x hx];split <;> cases a <;> rfl)
   (fun hn=>⟨rfl,by
    have ha:a=none:=by cases a with
     | none=>rfl
     | some _=>split at hn <;> simp at hn
    have:=(Ą.nil ha).2;omega⟩) (Χ _) (fun h=>ζ rfl h) (fun i e h=>by simp at h) (fun i j e x h=>by simp at h) (fun i j e x h=>by simp at h)
  rw [hne,this];exact h2
 ·have ĸ:es≠ []:=by intro h0;rw [h0] at hne;simp at hne
  obtain ⟨b,off,rfl,ć⟩:=Ą.at_ ĸ;have ō:0<h-l:=by rw [<-Ċ];exact List.length_pos_iff.2 hne
  have ŗ: ¬ cap=l:=by omega
  rw [U ŗ]
  have hval: ∀i j:D,∃v,∀e x,((es.take h).drop l)[i]?=A e->e.cells[j]?=A x->w.cell? ⟨b,off+l*sz+i*sz+j,F⟩=A v/\Rd g w x v/\v.oneCell'=true:=fun i j=>by
   cases hi:((es.take h).drop l)[i]? with
   | none=>exact ⟨undef,fun e x he=>by cases he⟩
   | some e=>
    cases hj:e.cells[j]? with
    | none=>exact ⟨undef,fun e' x he hx=>by cases he;rw [hj] at hx;cases hx⟩
    | some x=>obtain ⟨v,hv,rv,ov⟩:=ć _ _ (CD hi) j x hj;refine ⟨v,fun e' x' he hx=> ?_⟩;cases he;rw [hj] at hx;cases hx;refine ⟨?_,rv,ov⟩;rw [show off+l*sz+i*sz+j=off+(l+i)*sz+j by rw [ι];omega];exact hv
  have:=Rd.ah (g:=g) (w:=w) nl sz ((es.take h).drop l) (A ⟨b,off+l*sz,F⟩) (cap-l) b (off+l*sz) (fun i j=>(hval i j).choose) (fun x hx=>by rw [<-Ĉ x hx];rfl) (fun hn=>by cases hn)
   (by rw [Ċ];omega) (fun _=>rfl) (fun i e he=>Ą.ok _ _ (CD he))
   (fun i j e x he hx=>⟨by rw [show off+l*sz+i*sz+j=off+(l+i)*sz+j by rw [ι];omega];exact hS b off rfl _ _ _ _ (CD he) hx,((hval i j).choose_spec e x he hx).1,((hval i j).choose_spec e x he hx).2.2⟩)
   (fun i j e x he hx=>((hval i j).choose_spec e x he hx).2.1)
  rw [Ċ] at this;simpa only [T,addr_add] using this
theorem Eh {sz:D} {es:C AV} {b cap lo hi:D} {a:ώ} (Ą:dE g w sz es (A ⟨b,0,F⟩) cap) (hS: ∀o,o<É es*sz->g.S b o) (ha:a=⟨b,lo*sz,F⟩\/cap=lo) (Ĩ:lo<=hi) (hh:hi<=É es):
  Rd g w (.ah F sz ((es.take hi).drop lo)) (.slice (A a) (hi-lo) (cap-lo)):=by
 have ą:=Ą.cap;by_cases hc:cap=lo
 ·have h0:(es.take hi).drop lo= []:=List.eq_nil_of_length_eq_zero (by simp;omega);have h1:hi-lo=0:=by omega
  rw [h0,h1];exact Rd.ah (g:=g) (w:=w) F sz [] (A a) (cap-lo) 0 0 (fun _ _=>undef) (fun x hx=>by cases hx) (fun hn=>by cases hn) (Χ _) (fun h=>ζ rfl h) (fun i e h=>by simp at h) (fun i j e x h=>by simp at h) (fun i j e x h=>by simp at h)
 ·have Ĥ:a=⟨b,lo*sz,F⟩:=by
   rcases ha with h | h
   ·exact h
   ·exact ζ h hc
  subst Ĥ
  have:=sZ (h:=hi) (l:=lo) F Ą (fun x h=>by cases h) (fun b' off Ĺ i j e x he hx=>by
   simp only [H,Addr.mk.injEq,and_true] at Ĺ;obtain ⟨rfl,rfl⟩:=Ĺ;refine hS _ ?_;have hlt:=al he;have Ĵ:=al hx;rw [(Ą.ok _ _ he).2] at Ĵ;have:(i+1)*sz<=É es*sz:=τ _ hlt;rw [ι] at this;omega) Ĩ hh
  rw [U hc] at this;simpa [addr_add] using this
theorem o7 {c:aD} (hc:cb c P) {el:J} {sz:D} {es:C AV} (h:uE (c.ti el) sz es=L): ∃j info,G4 P el j info/\(sz=j.size\/es= []):=by
 unfold uE at h;split at h
 ·rename_i j hj;obtain ⟨info,hi⟩:=bS (hc.ty el j hj);refine ⟨j,info,hi,?_⟩;simp only [Ψ,beq_iff_eq,List.isEmpty_iff] at h;exact h
 ·cases h
theorem At (hm:Mem g bs w) {k:D} {sh:Hd} {sz:D} {es:C AV} (hb:af.at bs k= .sl sh sz es):
  ∃g',Mem g' (bs.set k (.sl ⟨L,sh.ty,F⟩ sz es)) w/\Le g w g' w/\Fr g w g' w/\(∀j,g'.e j=g.e j)/\ ∀b cap n,g.e k= .sl n sz (A (b,cap))-> ∀o,o<É es*sz->g'.S b o:=by
 obtain ⟨loc,ċ,hr⟩:=hm.sl k sh sz es hb;have hk:k<É bs:=fA (by rw [hb];simp);have he:(fun b o=>g.S b o\/((g.e k).bM=A b/\o<É es*sz))=(fun b o=>g.S b o\/((g.e k).bM=A b/\o<É es*sz)):=rfl;have hlt: ∀b,(g.e k).bM=A b->b<w.heap.size:=fun b ģ=>hm.cR ģ
 have Ğ: ∀j,(g.eQ k (g.e k) (fun b o=>g.S b o\/((g.e k).bM=A b/\o<É es*sz))).e j=g.e j:=fun j=>by
  by_cases h:k=j
  ·subst h;rw [Gh.bo]
  ·rw [Gh.bj _ _ _ h]
 have hle:Le g w (g.eQ k (g.e k) (fun b o=>g.S b o\/((g.e k).bM=A b/\o<É es*sz))) w:=⟨fun _ _ h=> .inl h,fun _ _ _=>rfl,fun j=>by rw [Ğ];exact .same _⟩
 obtain ⟨h1,h2,h3⟩:=Mem.upd (w':=w) (id:=k) (x:= .sl ⟨L,sh.ty,F⟩ sz es) (ge:=g.e k) (S':=fun b o=>g.S b o\/((g.e k).bM=A b/\o<É es*sz)) hm hk
  (fun _ _ h=> .inl h) (fun _ _ _=>rfl) (.same _) (fun _ _ _=>rfl) (W _) (fun _ h=> .inl h) (by simp) (fun ty cs h=>by cases h)
  (fun sh' Ĝ ġ h=>by
   cases h;refine ⟨loc,ċ,hr.1,?_⟩;cases loc with
   | none=>exact hr.2
   | some p=>
    obtain ⟨b,cap⟩:=p;obtain ⟨c,ty,fz,q1,q2,q3,q4,q5,q6,q7⟩:=hr.2;refine ⟨c,ty,fz,q1,q2,q3,fun t ht=>⟨(q4 t ht).1,fun o ho=>(q4 t ht).2 o (Ξ (by split <;> simp) ho)⟩,fun i j e x v a1 a2 a3=>⟨(q5 i j e x v a1 a2 a3).1.mono hle,(q5 i j e x v a1 a2 a3).2⟩,fun _ o ho=> .inr ⟨by rw [ċ];rfl,ho⟩,fun _ _ _ _ hl=>(by cases hl)⟩)
  (fun b o h=>h.imp id (fun h=>⟨hlt b h.1,h.1⟩))
  (fun b o h ă=>by
   rcases h with h | h
   ·obtain ⟨ty',Ĝ,ġ,h1,h2⟩:=(hm.dh b o h).2 k ă;rw [hb] at h1;cases h1;exact ⟨_,_,_,rfl,h2⟩
   ·exact ⟨_,_,_,rfl,h.2⟩) rfl rfl rfl
 exact ⟨_,h1,h2,h3,Ğ,fun b cap n hg o ho=> .inr ⟨by rw [hg];rfl,ho⟩⟩
theorem G9 (hm:Mem g bs w) {k:D} {sh:Hd} {sz:D} {es:C AV} (hb:af.at bs k= .sl sh sz es):
  ∃g',Mem g' (bs.set k (.sl ⟨sh.out,sh.ty,F⟩ sz es)) w/\Le g w g' w/\Fr g w g' w/\ ∀j,g'.e j=g.e j:=by
 obtain ⟨loc,ċ,hr⟩:=hm.sl k sh sz es hb;have hk:k<É bs:=fA (by rw [hb];simp)
 have Ğ: ∀j,(g.eQ k (g.e k) g.S).e j=g.e j:=fun j=>by
  by_cases h:k=j
  ·subst h;rw [Gh.bo]
  ·rw [Gh.bj _ _ _ h]
 have hle:Le g w (g.eQ k (g.e k) g.S) w:=⟨fun _ _ h=>h,fun _ _ _=>rfl,fun j=>by rw [Ğ];exact .same _⟩
 obtain ⟨h1,h2,h3⟩:=Mem.upd (w':=w) (id:=k) (x:= .sl ⟨sh.out,sh.ty,F⟩ sz es) (ge:=g.e k) (S':=g.S) hm hk
  (fun _ _ h=>h) (fun _ _ _=>rfl) (.same _) (fun _ _ _=>rfl) (W _) (fun _ h=> .inl h) (by simp) (fun ty cs h=>by cases h)
  (fun sh' Ĝ ġ h=>by
   cases h;refine ⟨loc,ċ,hr.1,?_⟩;cases loc with
   | none=>exact hr.2
   | some p=>
    obtain ⟨b,cap⟩:=p;obtain ⟨c,ty,fz,q1,q2,q3,q4,q5,q6,q7⟩:=hr.2;exact ⟨c,ty,fz,q1,q2,q3,q4,fun i j e x v a1 a2 a3=>⟨(q5 i j e x v a1 a2 a3).1.mono hle,(q5 i j e x v a1 a2 a3).2⟩,q6,fun _ _ _ _ hl=>(by cases hl)⟩)
  (fun b o h=> .inl h)
  (fun b o h ă=>by
   obtain ⟨ty',Ĝ,ġ,h1,h2⟩:=(hm.dh b o h).2 k ă;rw [hb] at h1;cases h1;exact ⟨_,_,_,rfl,h2⟩) rfl rfl rfl
 exact ⟨_,h1,h2,h3,Ğ⟩
omit [Kn] in
theorem MM {bs:C af} {k:D} {x:af} (h:af.at bs k=x):bs.set k x=bs:=by
 subst h;apply List.ext_getElem?;intro j;rw [Γ];split
 ·rename_i e;subst e;split
  ·rename_i hl;simp [af.at,X,δ hl]
  ·rename_i hl;rw [V (by omega)]
 ·rfl
theorem CE {c:aD} (hc:cb c P) (hm:Mem g bs w) {t:J} {i:TI} (Č:c.ti t=A i) {x r:AV} {u:I} {e:dy} {lo hi:B AV} {vl vh:B I} {id:D} (hx:Rd g w x u)
  (Ď:match lo,vl with | none,none=>Ϗ | some x,A v=>Rd g w x v | _,_=>Κ) (ĝ:match hi,vh with | none,none=>Ϗ | some x,A v=>Rd g w x v | _,_=>Κ)
  (h:dX c i.desc x lo hi bs=A (r,e)) {bs':C af} (he:e.on bs id=A bs'):
  di ((do pure (Next.value (<-Instr.sliceAt t u vl vh F)):Sem φ).run P w) g w bs' r:=by
 obtain ⟨info,ė⟩:=bS (hc.ty t i Č)
 have scaled: ∀{j:TI} {sz l h:D} {es:C AV},(sz=j.size\/es= [])->l<=h->h<=É es->l*j.size=l*sz:=fun hs h1 h2=>by
  rcases hs with rfl | rfl
  ·rfl
  ·have:_=0:=Nat.le_zero.1 (Ξ h1 (by simpa using h2));rw [this];simp
 unfold dX at h;split at h
 ·rename_i s hdesc;split at h
  ·rename_i hb ĩ;cases ď:dw lo 0 hb with
   | none=>rw [ď] at h;cases h
   | some l=>
    rw [ď] at h;cases h;cases he;obtain rfl:=hx.cS;have Ć:(ByteArray.mk s.toArray).size=É s:=by show s.toArray.size=_;simp
    obtain ⟨h1,_,_⟩:=kE (P:=P) O Ď ĝ ĩ ď (W (É s));refine .pure (v:= .string ⟨((s.take hb).drop l).toArray⟩) ?_ hm (.str _);simp [Instr.sliceAt,Instr.slice,E (hdesc▸ė.fM),Ć,h1,str_slice]
  ·cases h
 ·rename_i el nl sz es hdesc;split at h
  ·rename_i ŏ;obtain ⟨j,ğ,hj,Ĕ⟩:=o7 hc ŏ;split at h
   ·rename_i hb ĩ;cases ď:dw lo 0 hb with
    | none=>rw [ď] at h;cases h
    | some l=>rw [ď] at h;cases h;cases he;obtain ⟨a,cap,rfl,Ą,Ĉ,hS⟩:=hx.G7;obtain ⟨h1,h2,h3⟩:=kE (P:=P) L Ď ĝ ĩ ď Ą.cap;refine .pure (v:= .slice (if cap=l then a else a.map (·.add (l*sz))) (hb-l) (cap-l)) ?_ hm (sZ nl Ą Ĉ hS h2 h3);simp [Instr.sliceAt,Instr.slice,E (hdesc▸ė.fM),h1,sizeOf,typeInfo,hj.info,hj.size,scaled Ĕ h2 h3]
   ·cases h
  ·cases h
 ·rename_i el k n hdesc;split at h
  ·rename_i sh sz es ĵ;split at h
   ·rename_i hn;obtain ⟨j,ğ,hj,Ĕ⟩:=o7 hc hn.2;split at h
    ·rename_i hb ĩ;cases ď:dw lo 0 hb with
     | none=>rw [ď] at h;cases h
     | some l=>
      rw [ď] at h;simp only [T] at h;cases ĺ:c.cut with
      | true=>
       rw [ĺ] at h;simp only at h;obtain ⟨a,cap,rfl,Ą,loc,ċ,hr,hl⟩:=hx.kD hm ĵ hn.1;obtain ⟨h1,h2,h3⟩:=kE (P:=P) L Ď ĝ ĩ ď Ą.cap
       have Ļ:(do pure (Next.value (<-Instr.sliceAt t (.slice a (É es) cap) vl vh F)):Sem φ).run P w= .ok (.value (.slice (if cap=l then a else a.map (·.add (l*sz))) (hb-l) (cap-l))) w:=by simp [Instr.sliceAt,Instr.slice,E (hdesc▸ė.fM),h1,sizeOf,typeInfo,hj.info,hj.size,scaled Ĕ h2 h3]
       split at h
       ·rename_i Ĩ;obtain ⟨rfl,rfl⟩:=Ĩ;cases h;cases he;refine .pure Ļ hm ?_
        have:Value.slice (if cap=0 then a else a.map (·.add (0*sz))) (hb-0) (cap-0)= .slice a (É es) cap:=by
         rw [ύ,ύ,hn.1];congr 1;split
         ·rfl
         ·cases a with
          | none=>rfl
          | some a=>simp [Addr.add]
        rw [this];exact hx
       ·rename_i Ĩ;cases h;cases he;rcases hl with ⟨b,rfl,rfl⟩ | ⟨rfl,rfl,rfl,rfl⟩
        ·refine .pure Ļ hm (.gO k n l hb n sz _ _ (by split <;> rfl) ċ (W _) (fun _=>⟨b,cap,if cap=l then ⟨b,0,F⟩ else ⟨b,l*sz,F⟩,rfl,?_,?_⟩))
         ·congr 1;split
          ·rfl
          ·simp [addr_add]
         ·split
          ·exact .inr (by assumption)
          ·exact .inl rfl
        ·simp only [Η] at h3 hn;exact ζ ⟨by omega,by omega⟩ Ĩ
      | false=>
      rw [ĺ] at h;simp only at h
      have Ť:bs.set k (.sl ⟨L,sh.ty,F⟩ sz es)=bs'/\r= .ah F sz ((es.take hb).drop l):=by
       obtain ⟨o,ty,lk⟩:=sh;cases o with
       | false=>cases h;cases he;exact ⟨rfl,rfl⟩
       | true=>
        cases lk with
        | some x=>cases h;cases he;exact ⟨rfl,rfl⟩
        | none=>cases h;cases he;exact ⟨MM ĵ,rfl⟩
      obtain ⟨rfl,rfl⟩:=Ť;obtain ⟨a,cap,rfl,Ą,loc,ċ,hr,hl⟩:=hx.kD hm ĵ hn.1;obtain ⟨g',m',l',f',hsame,ť⟩:=At hm ĵ;obtain ⟨h1,h2,h3⟩:=kE (P:=P) L Ď ĝ ĩ ď Ą.cap
      have Ő:dE g' w sz es a cap:=⟨fun hne=>by
        obtain ⟨b,off,ha,ć⟩:=Ą.at_ hne;exact ⟨b,off,ha,fun i e he j x hx=>let ⟨v,hv,rv,ov⟩:=ć i e he j x hx;⟨v,hv,rv.mono l',ov⟩⟩,Ą.ok,Ą.nil,Ą.cap⟩
      refine ⟨_,.slice (if cap=l then a else a.map (·.add (l*sz))) (hb-l) (cap-l),w,g',?_,.inl rfl,m',l',f',sZ F Ő (fun x h=>by cases h) ?_ h2 h3⟩
      ·simp [Instr.sliceAt,Instr.slice,E (hdesc▸ė.fM),h1,sizeOf,typeInfo,hj.info,hj.size,scaled Ĕ h2 h3]
      ·intro b off Ĺ i' j' e' x' Ń Ė;have hne:es≠ []:=by intro h0;rw [h0] at Ń;cases Ń
       rcases hl with ⟨b',rfl,rfl⟩ | ⟨_,h0,_⟩
       ·simp only [H,Addr.mk.injEq,and_true] at Ĺ;obtain ⟨rfl,rfl⟩:=Ĺ;refine ť _ _ _ ċ _ ?_;have hlt:=al Ń;have Ĵ:=al Ė;rw [(Ą.ok _ _ Ń).2] at Ĵ;have:(i'+1)*sz<=É es*sz:=τ _ hlt;rw [ι] at this;omega
       ·exact ζ h0 hne
    ·cases h
   ·cases h
  ·cases h
 ·rename_i el k n Ħ Ŏ hdesc;split at h
  ·rename_i sh sz es ĵ;split at h
   ·rename_i hn;obtain ⟨hn,Ĩ,hh,ŏ⟩:=hn;obtain ⟨j,ğ,hj,Ĕ⟩:=o7 hc ŏ;split at h
    ·rename_i hb ĩ;cases ď:dw lo 0 hb with
     | none=>rw [ď] at h;cases h
     | some l=>
      rw [ď] at h;cases h;cases he;obtain ⟨b,cap,a,rfl,ha,ċ,hr,Ą⟩:=hx.rO hm ĵ hn;have ą:=Ą.cap;obtain ⟨h1,h2,h3⟩:=kE (P:=P) L Ď ĝ ĩ ď (show Ŏ-Ħ<=cap-Ħ by omega);refine .pure (v:= .slice (if cap-Ħ=l then A a else A (a.add (l*sz))) (hb-l) (cap-Ħ-l)) ?_ hm (.gO k n _ _ n sz _ _ (by split <;> rfl) ċ (W _) (fun _=>⟨b,cap,if cap-Ħ=l then a else a.add (l*sz),rfl,?_,?_⟩))
      ·have Ŧ:l*j.size=l*sz:=by
        rcases Ĕ with rfl | h0
        ·rfl
        ·subst h0;simp only [Η] at hn;have:l=0:=by omega
         rw [this];simp
       simp [Instr.sliceAt,Instr.slice,E (hdesc▸ė.fM),h1,sizeOf,typeInfo,hj.info,hj.size,Ŧ]
      ·have e1:Ħ+hb-(Ħ+l)=hb-l:=by omega
       have e2:cap-(Ħ+l)=cap-Ħ-l:=by omega
       rw [e1,e2];split <;> rfl
      ·rcases ha with rfl | ha
       ·split
        ·rename_i ŗ;exact .inr (by omega)
        ·rw [addr_add,<-ι];exact .inl rfl
       ·exact .inr (by omega)
    ·cases h
   ·cases h
  ·cases h
 ·cases h
theorem xT {x:B AV} {v:B I} (hx:match x,v with | none,none=>Ϗ | some x,A v=>Rd g w x v | _,_=>Κ) (h:isZero x=L): ∃k,v=A (.int k 0):=by
 unfold isZero at h;split at h
 ·cases v with
  | none=>exact hx.elim
  | some z=>obtain rfl:=Rd.aU hx;simp only [beq_iff_eq] at h;subst h;exact ⟨_,rfl⟩
 ·cases h
 ·cases h
theorem CF {c:aD} (hc:cb c P) (hm:Mem g bs w) {t:J} {i:TI} (Č:c.ti t=A i) {x r:AV} {u:I} {e:dy} {lo hi mx:B AV} {vl vh vm:B I} (hx:Rd g w x u)
  (Ď:match lo,vl with | none,none=>Ϗ | some x,A v=>Rd g w x v | _,_=>Κ) (ĝ:match hi,vh with | none,none=>Ϗ | some x,A v=>Rd g w x v | _,_=>Κ)
  (ŧ:match mx,vm with | none,none=>Ϗ | some x,A v=>Rd g w x v | _,_=>Κ)
  (h:lu c i.desc x lo hi mx bs=A (r,e)):e= .none/\di ((do pure (Next.value (<-Instr.sliceAt t u vl vh vm)):Sem φ).run P w) g w bs r:=by
 obtain ⟨info,ė⟩:=bS (hc.ty t i Č);unfold lu at h;split at h
 ·rename_i el hdesc;split at h
  ·rename_i p j Ą hj;obtain ⟨ğ,ł⟩:=bS (hc.ty el j hj);split at h
   ·rename_i hz;cases h;simp only [N,Ψ,Option.isNone_iff_eq_none] at hz;obtain ⟨⟨ő,Ũ⟩,ũ⟩:=hz;obtain ⟨kh,rfl⟩:=xT ĝ Ũ;obtain ⟨km,rfl⟩:=xT ŧ ũ;obtain ⟨sz,es⟩:=p;obtain ⟨a,cap,rfl,_⟩:=o6 hm hx Ą;refine ⟨rfl,.pure (v:= .slice a 0 0) ?_ hm (.cG F a (fun _ h=>by cases h))⟩
    have hl:vl=F\/ ∃k,vl=A (.int k 0):=by
     rcases ő with rfl | ő
     ·cases vl with
      | none=>exact .inl rfl
      | some _=>exact Ď.elim
     ·exact .inr (xT Ď ő)
    rcases hl with rfl | ⟨kl,rfl⟩ <;>
     simp [Instr.sliceAt,Instr.slice,E (hdesc▸ė.fM),Instr.sliceBounds,Instr.sliceBound,asIntOf,sizeOf,typeInfo,ł.info]
   ·cases h
  ·cases h
 ·cases h
end
end Go.Am
namespace Go.Am
variable [Kn]
section
variable {P:γ} {g:Gh} {bs:C af} {w:Q}
theorem lA: ∀{cs:C AV} {i:D} {c:AV},fg cs=true->cs[i]?=A c->c.cO=L
 | [],i,c,_,h=>by cases h
 | v::r,0,c,hp,h=>by simp only [fg,N] at hp;simp at h;rw [<-h];exact hp.1
 | v::r,i+1,c,hp,h=>by simp only [fg,N] at hp;simp at h;exact lA hp.2 h
theorem Rd.cells {d:AV} {v:I} (h:Rd g w d v) (hd:d≠ .any):v.cells.size=d.cells.length/\ ∀(j:D) (x:AV) (u:I),d.cells[j]?=A x->v.cells[j]?=A u->Rd g w x u:=by
 have one: ∀{d:AV} {v:I},Rd g w d v->d.cells= [d]->v.cells= #[v]->v.cells.size=d.cells.length/\ ∀(j:D) (x:AV) (u:I),d.cells[j]?=A x->v.cells[j]?=A u->Rd g w x u:=by
  intro d v h h1 h2;rw [h1,h2];refine ⟨rfl,fun j x u hx hu=> ?_⟩;cases j with
  | zero=>simp at hx hu;subst hx;subst hu;exact h
  | succ j=>simp at hx
 cases h with
 | any=>exact ζ rfl hd
 | agg cs vs hn h=>exact ⟨hn,h⟩
 | jZ v hv=>exact one (.jZ v hv) rfl (by cases v <;> simp [Value.oneCell'] at hv <;> rfl)
 | cZ k n i off m sz loc v h1 h hle hv=>exact one (.cZ k n i off m sz loc v h1 h hle hv) rfl (by cases v <;> simp [Value.oneCell'] at h1 <;> rfl)
 | aC k n m sz loc v h1 h hle hv=>exact one (.aC k n m sz loc v h1 h hle hv) rfl (by cases v <;> simp [Value.oneCell'] at h1 <;> rfl)
 | gO k n lo hi m sz loc v h1 h hle hv=>exact one (.gO k n lo hi m sz loc v h1 h hle hv) rfl (by cases v <;> simp [Value.oneCell'] at h1 <;> rfl)
 | int k n=>exact one (.int k n) rfl rfl
 | bool b=>exact one (.bool b) rfl rfl
 | str s=>exact one (.str s) rfl rfl
 | aK cs vs hn h=>exact one (.aK cs vs hn h) rfl rfl
 | cn=>exact one .cn rfl rfl
 | ptr k off b h=>exact one (.ptr k off b h) rfl rfl
 | dB cs b off Ă hp h=>exact one (.dB cs b off Ă hp h) rfl rfl
 | ah nl sz es a cap b off Ă h1 h2 h3 h4 h5 h6 h7=>exact one (.ah nl sz es a cap b off Ă h1 h2 h3 h4 h5 h6 h7) rfl rfl
 | cG nl a h=>exact one (.cG nl a h) rfl rfl
 | fn f cs ds vs us h1 h2 h3 h4=>exact one (.fn f cs ds vs us h1 h2 h3 h4) rfl rfl
 | er=>exact one .er rfl rfl
 | il b v h=>exact one (.il b v h) rfl (by rcases h with ⟨_,rfl⟩ | ⟨_,_,_,rfl⟩ <;> rfl)
 | mG t k n=>exact one (.mG t k n) rfl rfl
 | gG k b s env r h1 h2 h3=>exact one (.gG k b s env r h1 h2 h3) rfl rfl
 | cg k b h=>exact one (.cg k b h) rfl rfl
 | lU k b h=>exact one (.lU k b h) rfl rfl
 | iv=>exact one .iv rfl rfl
theorem gq {d:AV} (h:fg d.cells=L):d≠ .any:=by rintro rfl;simp [AV.cells,fg,AV.cO] at h
theorem qd (v:I):v.cells.size=(gH v).cells.length/\ ∀(j:D) (x:AV) (u:I),(gH v).cells[j]?=A x->v.cells[j]?=A u->Rd g w x u:=by
 by_cases h:gH v= .any
 ·refine ⟨?_,fun j x u hx hu=> ?_⟩
  ·rw [h];cases v <;> simp [gH,kv] at h <;> first | rfl | (split at h <;> simp at h)
  ·rw [h] at hx;cases j with
   | zero=>simp [AV.cells] at hx;subst hx;exact .any _
   | succ j=>simp [AV.cells] at hx
 ·exact (rd_val g w v).cells h
theorem CG (hm:Mem g bs w) {id:D} {cs:C AV} {c:R I} {ty:J} {r:ό φ} {bs':C af} (he:(dy.new (.var ty cs)).on bs id=A bs')
  (hr:r= .ok (.value (.pointer (A ⟨w.heap.size,0,F⟩))) (w.alloc (.cells c ty))) (hn:c.size=É cs) (h: ∀(j:D) (x:AV) (u:I),cs[j]?=A x->c[j]?=A u->Rd g w x u):
  di r g w bs' (.ptr id 0):=by
 simp only [dy.on] at he;split at he
 ·rename_i hd;cases he;have hid:=al hd;have ļ:af.at bs id= .dead:=by simp [af.at,X,hd]
  have Ā: ∀b,b<w.heap.size->(w.alloc (.cells c ty)).heap[b]?=w.heap[b]?:=fun b hb=>cJ w _ hb;have Ć:w.heap.size<=(w.alloc (.cells c ty)).heap.size:=by simp
  have ă: ∀b,(GE.var w.heap.size).bM=A b->w.heap.size<=b:=fun b hb=>by simp [GE.bM] at hb;omega
  have hl:Le g w (g.put id (.var w.heap.size)) (w.alloc (.cells c ty)):=xP (by rw [hm.no id ļ];exact .no _) (fun b o hb=>cr (Ā b (hm.dh b o hb).1) o)
  obtain ⟨m',l'⟩:=hm.new (x:= .var ty cs) (ge:= .var w.heap.size) hid ļ Ā Ć ă (by simp) (fun ty' Ī ć=>by
   cases ć;exact ⟨_,rfl,c,dH w _,hn,fun j x v hx hv=>(h j x v hx hv).mono hl⟩) (fun sh sz es h=>by cases h)
  exact ⟨_,_,_,_,hr,.inl rfl,m',l',Fr.new Ć Ā ă rfl rfl rfl,.ptr id 0 _ (Gh.cy _ _ _)⟩
 ·cases he
theorem CI (hm:Mem g bs w) {r:ό φ} {w':Q} {v:I} {d:AV} (hr:r= .ok (.value v) w') (Ā: ∀b,b<w.heap.size->w'.heap[b]?=w.heap[b]?) (Ć:w.heap.size<=w'.heap.size)
  (Į:w'.os=w.os) (ht:w'.tape=w.tape) (ho:w'.output=w.output) (hd:Rd g w' d v):di r g w bs d:=by
 have hl:Le g w g w':=⟨fun _ _ h=>h,fun b o hb=>cr (Ā b (hm.dh b o hb).1) o,fun _=> .same _⟩;refine ⟨_,v,w',g,hr,.inl rfl,⟨hm.no,fun k ty cs hk=> ?_,fun k sh sz es hk=> ?_,fun k st hk=> ?_,fun k es clock hk=> ?_,hm.gone,fun k o hk=> ?_,hm.inj,fun b o hs=>⟨ν (hm.dh b o hs).1 Ć,(hm.dh b o hs).2⟩,hm.Cw Ā (fun k b hb=> .inl hb)⟩,hl,⟨Ć,fun b hb hn=>⟨Ā b hb,hn,fun _ h=>h⟩,Į,ht,ho⟩,hd⟩
 ·obtain ⟨b,he,hv⟩:=hm.var k ty cs hk;exact ⟨b,he,hv.mono hl (Ā b (hm.cR (k:=k) (by rw [he];rfl)))⟩
 ·obtain ⟨loc,he,hs⟩:=hm.sl k sh sz es hk;exact ⟨loc,he,hs.mono hl (fun p hp=>Ā p.1 (hm.cR (k:=k) (by rw [he,hp];rfl)))⟩
 ·obtain ⟨b,r,he,hs⟩:=hm.loop k st hk;exact ⟨b,r,he,(Ā b (hm.cR (k:=k) (by rw [he];rfl))).trans hs⟩
 ·obtain ⟨b,he,hs⟩:=hm.mp k es clock hk;exact ⟨b,he,hs.mono hl (Ā b (hm.cR (k:=k) (by rw [he];rfl)))⟩
 ·obtain ⟨b,he,hs⟩:=hm.it k o hk;exact ⟨b,he,hs.le hl (Ā b (hm.cR (k:=k) (by rw [he];rfl)))⟩
theorem xU (hm:Mem g bs w) {id:D} {sz:D} {es:C AV} {c:R I} {ty:J} {fz:D×D} {cap:D} {r:ό φ} {w':Q} {bs':C af} (he:(dy.new (.sl ⟨O,A ty,F⟩ sz es)).on bs id=A bs')
  (hr:r= .ok (.value (.slice (A ⟨w.heap.size,0,F⟩) (É es) cap)) w') (Ā: ∀b,b<w.heap.size->w'.heap[b]?=w.heap[b]?) (Ć:w.heap.size<=w'.heap.size) (hb:w'.heap[w.heap.size]?=A (.cells c ty fz))
  (Į:w'.os=w.os) (ht:w'.tape=w.tape) (ho:w'.output=w.output) (hf:MK c fz) (hc:c.size=cap*sz) (ą:É es<=cap) (hc1:1<=cap)
  (hok: ∀(i:D) (e:AV),es[i]?=A e->e.plain=L/\e.cells.length=sz)
  (h: ∀(i j:D) (e x:AV) (v:I),es[i]?=A e->e.cells[j]?=A x->c[i*sz+j]?=A v->Rd g w x v/\v.oneCell'=L):di r g w bs' (.aC id (É es)):=by
 simp only [dy.on] at he;split at he
 ·rename_i hd;cases he;have hid:=al hd;have ļ:af.at bs id= .dead:=by simp [af.at,X,hd]
  have ă: ∀b,(GE.sl (É es) sz (A (w.heap.size,cap))).bM=A b->w.heap.size<=b:=fun b hb=>by simp [GE.bM] at hb;omega
  have hl:Le g w (g.put id (.sl (É es) sz (A (w.heap.size,cap)))) w':=xP (by rw [hm.no id ļ];exact .no _) (fun b o hb=>cr (Ā b (hm.dh b o hb).1) o)
  obtain ⟨m',l'⟩:=hm.new (x:= .sl ⟨O,A ty,F⟩ sz es) (ge:= .sl (É es) sz (A (w.heap.size,cap))) hid ļ Ā Ć ă (by simp) (fun _ Ī ć=>by cases ć) (fun sh Ĝ ġ h'=>by
   cases h';exact ⟨_,rfl,hok,c,ty,fz,hb,hc,by omega,fun t ht=>⟨by cases ht;rfl,hf.from _⟩,fun i j e x v a1 a2 a3=>⟨(h i j e x v a1 a2 a3).1.mono hl,(h i j e x v a1 a2 a3).2⟩,fun h=>(by cases h),fun _ _ _ _ h=>(by cases h)⟩)
  exact ⟨_,_,_,_,hr,.inl rfl,m',l',Fr.new Ć Ā ă Į ht ho,.aC id _ _ sz _ _ rfl (Gh.cy _ _ _) (W _) (fun _=> .inl ⟨_,_,rfl,rfl⟩)⟩
 ·cases he
theorem Ei {c:aD} (hc:cb c P) (hm:Mem g bs w) {t:J} {id:D} {r:AV} {e:dy} (h:xJ (c.ti t) t id=A (r,e)) {bs':C af} (he:e.on bs id=A bs'):
  di ((do pure (Next.value (<-Instr.alloc t L (.tuple #[]))):Sem φ).run P w) g w bs' r:=by
 unfold xJ at h;split at h
 ·rename_i i Č;obtain ⟨info,hi⟩:=bS (hc.ty t i Č);split at h
  ·rename_i z hz;cases h;have ĕ:=hi.zero;rw [hz] at ĕ;cases hv:info.zero with
   | none=>rw [hv] at ĕ;cases ĕ
   | some v=>rw [hv] at ĕ;simp only [T,H] at ĕ;subst ĕ;obtain ⟨h1,h2⟩:=qd (g:=g) (w:=w) v;exact CG hm he (c:=v.cells) (ty:=t) (by simp [Instr.alloc,zeroValue,typeInfo,hi.info,hv,newVar,newRow]) h1 h2
  ·cases h
 ·cases h
theorem KB (hm:Mem g bs w) {t:J} {id:D} {x r:AV} {u:I} {e:dy} (hx:Rd g w x u) (h:MG t x.cells id=A (r,e)) {bs':C af} (he:e.on bs id=A bs'):
  di ((do pure (Next.value (<-Instr.box t u)):Sem φ).run P w) g w bs' r:=by
 unfold MG at h;split at h
 ·rename_i hok;cases h;obtain ⟨h1,h2⟩:=hx.cells (gq hok);exact CG hm he (c:=u.cells) (ty:=t) (by simp [Instr.box,newVar,newRow]) h1 h2
 ·cases h
theorem Au (off:D): ∀(l:C I) (s:D) (cs:R I) (k:D),(((l.zipIdx s).foldl (fun cs p=>cs.setIfInBounds (off+p.2) p.1) cs))[k]?=
  if off+s<=k/\k<off+s+É l/\k<cs.size then l[k-(off+s)]? else cs[k]?
 | [],s,cs,k=>by simp;omega
 | v::r,s,cs,k=>by
  simp only [List.zipIdx_cons,Ω];rw [Au off r (s+1) (cs.setIfInBounds (off+s) v) k];simp only [Array.size_setIfInBounds,List.length_cons];by_cases hk:k=off+s
  ·subst hk;by_cases hlt:off+s<cs.size
   ·rw [U (by omega),Y (by omega)];simp [hlt]
   ·rw [U (by omega),U (by omega)];simp [hlt]
  ·by_cases h1:off+s<=k/\k<off+s+(É r+1)/\k<cs.size
   ·rw [Y (by omega),Y h1];have:k-(off+s)=(k-(off+(s+1)))+1:=by omega
    rw [this,List.getElem?_cons_succ]
   ·rw [U (by omega),U h1];exact ο (by omega)
theorem o8 (off:D): ∀(l:C (I×D)) (cs:R I),(l.foldl (fun cs p=>cs.setIfInBounds (off+p.2) p.1) cs).size=cs.size
 | [],cs=>rfl
 | v::r,cs=>by simp only [Ω];rw [o8 off r];simp
theorem Ej (vs cs:R I) (off k:D):(vs.zipIdx.foldl (fun cs (x:I×D)=>cs.setIfInBounds (off+x.2) x.1) cs)[k]?=if off<=k/\k<off+vs.size/\k<cs.size then vs[k-off]? else cs[k]?:=by rw [<-Ν,Array.toList_zipIdx,Au];simp
theorem qP (vs cs:R I) (off:D):(vs.zipIdx.foldl (fun cs (x:I×D)=>cs.setIfInBounds (off+x.2) x.1) cs).size=cs.size:=by rw [<-Ν,o8]
theorem kF (cs v:C AV) (off k:D) (h:off+É v<=É cs):(ab cs off v)[k]?=if off<=k/\k<off+É v then v[k-off]? else cs[k]?:=by
 unfold ab;have h1:(cs.take off).length=off:=by simp;omega
 by_cases hk:k<off
 ·rw [U (by omega),Δ,ω (by omega),η,Y hk]
 ·by_cases hk2:k<off+É v
  ·rw [Y (by omega),Δ,κ (by omega),h1,ω (by omega)]
  ·rw [U (by omega),Δ,κ (by omega),h1,κ (by omega),Z];congr 1;omega
theorem gf (cs v:C AV) (off:D) (h:off+É v<=É cs):(ab cs off v).length=É cs:=by unfold ab;simp;omega
inductive dM (g:Gh) (w:Q):C (D×AV)->C (D×I)->Prop where
 | nil:dM g w [] []
 | cons {p:D×AV} {q:D×I} {ps:C (D×AV)} {qs:C (D×I)} (h:p.1=q.1/\Rd g w p.2 q.2) (t:dM g w ps qs):dM g w (p::ps) (q::qs)
theorem Ek {Ġ:D->B (D×D)} {place:D->B (D×D)} (Ū: ∀i p,Ġ i=A p->place i=A p) {ps:C (D×AV)} {qs:C (D×I)} (ń:dM g w ps qs):
  ∀(cs:C AV) (c:R I) (Ī:C AV),c.size=É cs->(∀(j:D) (x:AV) (u:I),cs[j]?=A x->c[j]?=A u->Rd g w x u)->vE Ġ cs ps=A Ī->
   ∃c',Instr.fill place c qs=A c'/\c'.size=Ī.length/\ ∀(j:D) (x:AV) (u:I),Ī[j]?=A x->c'[j]?=A u->Rd g w x u:=by
 induction ń with
 | nil=>intro cs c Ī hn h hf;cases hf;exact ⟨c,rfl,hn,h⟩
 | @cons p q ps qs ū _ ih=>
  intro cs c Ī hn h hf;obtain ⟨i,x⟩:=p;obtain ⟨i',v⟩:=q;obtain ⟨rfl,hx⟩:=ū;simp only [vE] at hf;split at hf
  ·cases hf
  ·rename_i off size hp;split at hf
   ·rename_i hc;obtain ⟨h1,h2,h3⟩:=hc;obtain ⟨k1,k2⟩:=Rd.cells hx (gq h3);simp only at hx h1 h3 k1 k2 hf;have Ċ:off+x.cells.length<=É cs:=by omega
    obtain ⟨c',q1,q2,q3⟩:=ih (ab cs off x.cells) (v.cells.zipIdx.foldl (fun cs (p:I×D)=>cs.setIfInBounds (off+p.2) p.1) c) Ī (by rw [qP,gf _ _ _ Ċ,hn])
     (fun j y u hy hu=>by
      rw [kF _ _ _ _ Ċ] at hy;rw [Ej] at hu;by_cases hj:off<=j/\j<off+x.cells.length
      ·rw [Y hj] at hy;rw [Y (by omega)] at hu;exact k2 _ _ _ hy hu
      ·rw [U hj] at hy;rw [U (by omega)] at hu;exact h j y u hy hu) hf
    refine ⟨c',?_,q2,q3⟩;simp only [Instr.fill,Ū _ _ hp];rw [U (by simp;omega)];exact q1
   ·cases hf
theorem uJ {t:Env} {a:Act} (ht:gv g w t a): ∀(l:C (D×ρ)),dM g w (l.map fun p=>(p.1,ev t p.2)) (l.map fun p=>(p.1,a.eval p.2))
 | []=> .nil
 | p::r=> .cons ⟨rfl,ht.ev p.2⟩ (uJ ht r)
theorem xV (w:Q): ∀(fs:C Field),(∀f∈fs,∃i,P.info? f.type=A i)->(fs.mapM fun f=>do pure (f.offset,<-sizeOf f.type):Sem (C (D×D))).run P w= .ok (fs.map fun f=>(f.offset,((P.info? f.type).map (·.size)).getD 0)) w
 | [],_=>rfl
 | f::fs,h=>by
  obtain ⟨i,hi⟩:=h f Μ;have ih:=xV w fs (fun f hf=>h f (Ι _ hf));simp only [List.mapM_cons,Sem.run_bind,sizeOf,typeInfo,run_program,Result.andThen_ok,hi,Sem.run_pure,ϋ,T,Φ] at ih⊢;rw [ih];rfl
theorem El {c:aD} (hc:cb c P) (hm:Mem g bs w) {t:J} {ps:C (D×AV)} {qs:R (D×I)} {r:AV} {e:dy} (ń:dM g w ps qs.toList) (h:uD c (c.ti t) ps=A (r,e)):
  e= .none/\di ((do pure (Next.value (<-Instr.build t qs)):Sem φ).run P w) g w bs r:=by
 unfold uD at h;split at h
 ·rename_i i Č;obtain ⟨info,hi⟩:=bS (hc.ty t i Č);split at h
  ·rename_i z hz;have ĕ:=hi.zero;rw [hz] at ĕ;cases hv:info.zero with
   | none=>rw [hv] at ĕ;cases ĕ
   | some v=>
    rw [hv] at ĕ;simp only [T,H] at ĕ;subst ĕ;obtain ⟨h1,h2⟩:=qd (g:=g) (w:=w) v;split at h
    ·rename_i fs hdesc;cases hf:vE (Cp i.fields) (gH v).cells ps with
     | none=>rw [hf] at h;cases h
     | some cs=>
      rw [hf] at h;cases h
      have Œ: ∀f∈fs.toList,∃i,P.info? f.type=A i:=fun f hf=>by
       have:=hi.fok;rw [hdesc] at this;simp only [xO,Υ] at this;exact Option.isSome_iff_exists.1 (this f hf)
      obtain ⟨c',q1,q2,q3⟩:=Ek (place:=fun k=>(fs.toList.map fun f=>(f.offset,((P.info? f.type).map (·.size)).getD 0)).toArray[k]?) (fun k p hp=>by
       rw [Cp,hi.fields,hdesc] at hp;simp only [fieldsOf,θ] at hp;simp only [List.getElem?_toArray,θ];cases hk:fs.toList[k]? with
       | none=>rw [hk] at hp;cases hp
       | some f=>rw [hk] at hp;simpa using hp) ń _ _ _ h1 h2 hf
      refine ⟨rfl,.pure (v:= .agg c') ?_ hm (.agg _ _ q2 q3)⟩;simp only [Instr.build,zeroValue,typeInfo,Sem.run_bind,run_program,Result.andThen_ok,hi.info,Sem.run_pure,hv,E (hdesc▸hi.fM),Array.mapM_eq_mapM_toList,Sem.run_map,xV w _ Œ,q1]
    ·rename_i n el hdesc;split at h
     ·rename_i j hj;obtain ⟨ē,Ř⟩:=bS (hc.ty el j hj);cases hf:vE (Cq j.size) (gH v).cells ps with
      | none=>rw [hf] at h;cases h
      | some cs=>rw [hf] at h;cases h;obtain ⟨c',q1,q2,q3⟩:=Ek (place:=fun i=>A (i*j.size,j.size)) (fun i p hp=>by simpa [Cq] using hp) ń _ _ _ h1 h2 hf;refine ⟨rfl,.pure (v:= .agg c') ?_ hm (.agg _ _ q2 q3)⟩;simp [Instr.build,zeroValue,typeInfo,hi.info,hv,E (hdesc▸hi.fM),sizeOf,Ř.info,Ř.size,q1]
     ·cases h
    ·cases h
  ·cases h
 ·cases h
end
end Go.Am
