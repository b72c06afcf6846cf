/- The abstract machine: -/
import GoSem.Dispatch
import GoSem.Machine.Return
import Derived.Orders
set_option linter.all false
namespace Go.Am
inductive Ex where
 | normal | ret | exit (id:Nat)
structure Site where
 ps:Array Tmp
 asg:Code
 body:Code
 keep:List Nat
 nt:Nat
 deriving Inhabited
def posOf (keep:List Nat) (i:Nat):Option Nat:=
 match keep with
 | []=>none
 | j::r=>if i=j then some 0 else (posOf r i).map (· +1)
inductive AV where
 | any
 | kc
 | int (k:IntKind) (n:Int)
 | bool (b:Bool)
 | str (s:List UInt8)
 | agg (cs:List AV)
 | aL (vs:List AV)
 | bZ
 | ptr (k off:Nat)
 | cM (k n i off:Nat)
 | dj (cs:List AV)
 | ag (nl:Option Bool) (sz:Nat) (es:List AV)
 | cv (nl:Option Bool)
 | ax (k n:Nat)
 | gn (k n lo hi:Nat)
 | fn (f:FuncId) (first caps:List AV)
 | eG
 | gR (nn:Bool)
 | ma (t:TypeId) (k:IntKind) (n:Int)
 | gm (k:Nat) (s:Site) (env:List AV)
 | bT (k:Nat)
 | lE (k:Nat)
 | ja
 deriving Inhabited
inductive QP where
 | ready | busy
 | done (e:Ex)
structure Hd where
 out:Bool
 ty:Option TypeId
 link:Option (Nat×Nat×Nat×Nat)
 deriving Inhabited
inductive Vp where
 | str (s:List UInt8) (pos:Nat)
 | map (m:Nat) (seen:List Nat) (clock:Nat)
 deriving Inhabited
inductive ad where
 | dead
 | var (ty:TypeId) (cs:List AV)
 | sl (sh:Hd) (sz:Nat) (es:List AV)
 | loop (st:QP)
 | mp (es:List (AV×AV×Nat)) (clock:Nat)
 | gone
 | iter (o:Vp)
 deriving Inhabited
inductive Tr (α:Type) where
 | lf
 | nd (v:α) (l r:Tr α)
def Tr.get {α:Type} (d:α):Tr α->Nat->α
 | .lf,_=>d
 | .nd v l r,i=>match i with
  | 0=>v
  | j+1=>match j%2 with
   | 0=>l.get d (j / 2)
   | _=>r.get d (j / 2)
def Tr.set {α:Type}:Tr α->Nat->α->Tr α
 | .lf,_,_=> .lf
 | .nd v l r,i,x=>match i with
  | 0=> .nd x l r
  | j+1=>match j%2 with
   | 0=> .nd v (l.set (j / 2) x) r
   | _=> .nd v l (r.set (j / 2) x)
def Tr.has {α:Type}:Tr α->Nat->Bool
 | .lf,_=>false
 | .nd _ l r,i=>match i with
  | 0=>true
  | j+1=>match j%2 with
   | 0=>l.has (j / 2)
   | _=>r.has (j / 2)
def Tr.mk {α:Type} (d:α):Nat->Nat->Tr α
 | 0,_=> .lf
 | k+1,n=>match n with
  | 0=> .lf
  | m+1=> .nd d (Tr.mk d k ((m+1) / 2)) (Tr.mk d k (m / 2))
def Tr.map {α β:Type} (f:α->β):Tr α->Tr β
 | .lf=> .lf
 | .nd v l r=> .nd (f v) (l.map f) (r.map f)
abbrev Env:=Tr AV
structure St where
 t:Env
 b:List ad
def AV.cells:AV->List AV
 | .agg cs=>cs
 | v=> [v]
def AV.cz:AV->Bool
 | .any | .agg _ | .aL _=>false
 | _=>true
def eS:List AV->Bool
 | []=>true
 | v::r=>v.cz&&eS r
mutual
def AV.plain:AV->Bool
 | .ptr _ _ | .cM _ _ _ _ | .ax _ _ | .gn _ _ _ _ | .gm _ _ _ | .bT _ | .lE _=>false
 | .agg cs=>ai cs
 | .aL cs=>ai cs
 | .fn _ a b=>ai a&&ai b
 | _=>true
def ai:List AV->Bool
 | []=>true
 | v::r=>v.plain&&ai r
end
mutual
def AV.flat:AV->Bool
 | .ptr _ _ | .cM _ _ _ _ | .ax _ _ | .gn _ _ _ _ | .dj _ | .ag _ _ _ | .cv _ | .gm _ _ _ | .bT _ | .lE _=>false
 | .agg cs=>flatAll cs
 | .aL cs=>flatAll cs
 | .fn _ a b=>flatAll a&&flatAll b
 | _=>true
def flatAll:List AV->Bool
 | []=>true
 | v::r=>v.flat&&flatAll r
end
def AV.QQ:AV->Nat
 | .int _ _=>1
 | .str _=>2
 | .bool _=>3
 | .ag _ _ _=>4
 | .cv _=>4
 | _=>0
def AV.differ:AV->AV->Bool
 | .int _ n,.int _ m=>decide (n≠m)
 | .str s,.str t=>decide (s≠t)
 | .bool a,.bool b=>a !=b
 | x,y=>decide (x.QQ≠0∧y.QQ≠0∧x.QQ≠y.QQ)
def eT:List AV->List AV->Bool
 | [],_=>true
 | _::_, []=>false
 | x::xs,y::ys=> !x.differ y&&eT xs ys
def kr (xs:List AV):List AV->Bool
 | []=>eT xs []
 | y::ys=>eT xs (y::ys) || kr xs ys
mutual
def AV.apart (ys:List AV):AV->Bool
 | .ptr _ _ | .cM _ _ _ _ | .ax _ _ | .gn _ _ _ _ | .dj _ | .fn _ _ _ | .gm _ _ _ | .bT _ | .lE _=>false
 | .ag _ _ es=>(es.isEmpty || !kr (es.flatMap AV.cells) ys)&&e7 ys es
 | .agg cs=>e7 ys cs
 | .aL cs=>e7 ys cs
 | _=>true
def e7 (ys:List AV):List AV->Bool
 | []=>true
 | v::r=>v.apart ys&&e7 ys r
end
def jH:Value->AV
 | .int k n=> .int k n
 | .bool b=> .bool b
 | .string s=> .str s.data.toList
 | .pointer none=> .bZ
 | .slice none 0 0=> .ag (some true) 0 []
 | .nilFunc=> .eG
 | .nilIface=> .gR false
 | .agg _=> .any
 | .tuple _=> .any
 | _=> .kc
def gA:Value->AV
 | .agg cs=> .agg (cs.toList.map jH)
 | .tuple vs=> .aL (vs.toList.map jH)
 | v=>jH v
def ev (t:Env):Operand->AV
 | .tmp i=>t.get .any i
 | .const v=>gA v
 | .func f=> .fn f [] []
 | .global _=> .any
structure TI where
 desc:TypeDesc
 size:Nat
 bytes:Nat
 zero:Option (List AV)
 agg:Bool
 eq:Bool
 fields:List (TypeId×Nat×Nat)
structure av where
 ty:Tr (Option TI)
 fn:Tr (Option Func)
 ov:FuncId->Option (List AV->Option AV)
 EC:FuncId->Option (List AV->List ad->Option (AV×List ad))
 ext:FuncId->Option (List AV->Option AV)
 own:FuncId->Bool
 cut:Bool:=false
 iW:FuncId->Bool:=fun _=>false
 ED:FuncId->Bool:=fun _=>false
 qg:FuncId->Option (Nat->Hd->Nat->List AV->List AV->Option AV):=fun _=>none
def av.ti (c:av) (t:TypeId):Option TI:=c.ty.get none t
def av.descOf (c:av) (t:TypeId):Option TypeDesc:=(c.ti t).map (·.desc)
def iF (i:TI) (cs:List AV) (off:Nat):Option AV:=
 match i.agg with
 | true=>if off+i.size<=cs.length then some (.agg ((cs.drop off).take i.size)) else none
 | false=>cs[off]?
def lF (op:BinOp) (k:IntKind) (a b:Int):Option AV:=
 match op with
 | .add=>some (.int k (k.wrap (a+b)))
 | .sub=>some (.int k (k.wrap (a-b)))
 | .mul=>some (.int k (k.wrap (a*b)))
 | .quo=>if b=0 then none else some (.int k (k.wrap (a.tdiv b)))
 | .rem=>if b=0 then none else some (.int k (a.tmod b))
 | .and=>some (.int k (k.wrap (BitVec.ofInt k.bits a&&&BitVec.ofInt k.bits b).toNat))
 | .or=>some (.int k (k.wrap (BitVec.ofInt k.bits a ||| BitVec.ofInt k.bits b).toNat))
 | .xor=>some (.int k (k.wrap (BitVec.ofInt k.bits a^^^BitVec.ofInt k.bits b).toNat))
 | .andNot=>some (.int k (k.wrap (BitVec.ofInt k.bits a&&& ~~~ BitVec.ofInt k.bits b).toNat))
 | .eql=>some (.bool (a==b))
 | .neq=>some (.bool (a !=b))
 | .lss=>some (.bool (decide (a<b)))
 | .leq=>some (.bool (decide (a<=b)))
 | .gtr=>some (.bool (decide (a>b)))
 | .geq=>some (.bool (decide (a≥b)))
 | _=>none
def mr (op:BinOp) (k:IntKind) (a b:Int):Option AV:=
 if b<0 then none else
 match op with
 | .shl=>some (.int k (k.wrap (a*2^min b.toNat k.bits)))
 | .shr=>some (.int k (a.fdiv (2^min b.toNat k.bits)))
 | _=>none
def wh:Nat:=4611686018427387904
def yQ (op:BinOp) (a b:List UInt8):Option AV:=
 match op with
 | .add=>if a.length+b.length<=wh then some (.str (a++b)) else none
 | .eql=>some (.bool (a==b))
 | .neq=>some (.bool (!(a==b)))
 | .lss=>some (.bool (Op.bytesLess a b))
 | .leq=>some (.bool (Op.bytesLess a b || a==b))
 | .gtr=>some (.bool (!(Op.bytesLess a b || a==b)))
 | .geq=>some (.bool (!Op.bytesLess a b))
 | _=>none
def jI (c:av) (d:TypeDesc) (x y:AV):Option Bool:=
 match d with
 | .bool=>match x,y with
  | .bool a,.bool b=>some (a==b)
  | _,_=>none
 | .int _=>match x,y with
  | .int k a,.int k' b=>if k=k' then some (a==b) else none
  | _,_=>none
 | .string=>match x,y with
  | .str a,.str b=>some (a==b)
  | _,_=>none
 | .pointer e=>match x,y with
  | .bZ,.bZ=>some true
  | .bZ,.ptr _ _ | .ptr _ _,.bZ | .bZ,.dj _ | .dj _,.bZ=>some false
  | .ptr k a,.ptr l b=>match c.ti e with
   | some j=>if j.size≠0 then some (k==l&&a==b) else none
   | none=>none
  | _,_=>none
 | .slice _=>match x,y with
  | .ag (some n) _ _,.ag (some true) 0 []=>some n
  | .ag _ _ (_::_),.ag (some true) 0 []=>some false
  | .cv (some n),.ag (some true) 0 []=>some n
  | _,_=>none
 | .func _ _ _=>match x,y with
  | .eG,.eG=>some true
  | .fn _ _ _,.eG | .eG,.fn _ _ _=>some false
  | _,_=>none
 | _=>none
def both:Option Bool->Option Bool->Option Bool
 | some a,some b=>some (a&&b)
 | _,_=>none
def eqFields (part:TypeId->List AV->Nat->Option AV) (eq:TypeId->AV->AV->Option Bool) (xs ys:List AV):List (TypeId×Nat×Nat)->Option Bool
 | []=>some true
 | (t,off,_)::r=>match part t xs off,part t ys off with
  | some a,some b=>both (eq t a b) (eqFields part eq xs ys r)
  | _,_=>none
def eqItems (part:TypeId->List AV->Nat->Option AV) (eq:TypeId->AV->AV->Option Bool) (e:TypeId) (n:Nat) (xs ys:List AV):List Nat->Option Bool
 | []=>some true
 | i::r=>match part e xs (i*n),part e ys (i*n) with
  | some a,some b=>both (eq e a b) (eqItems part eq e n xs ys r)
  | _,_=>none
def iD (c:av) (t:TypeId) (cs:List AV) (off:Nat):Option AV:=
 match c.ti t with
 | some i=>iF i cs off
 | none=>none
def bh (c:av):Nat->TypeId->AV->AV->Option Bool
 | 0,_,_,_=>none
 | d+1,t,x,y=>match c.ti t with
  | none=>none
  | some i=>match x,y with
   | .agg xs,.agg ys=>match i.eq with
    | true=>match i.desc with
     | .struct _=>eqFields (iD c) (bh c d) xs ys i.fields
     | .array n e=>match c.ti e with
      | some j=>eqItems (iD c) (bh c d) e j.size xs ys (List.range n)
      | none=>none
     | _=>none
    | false=>none
   | x,y=>jI c i.desc x y
def iG (c:av) (t:TypeId) (op:BinOp) (x y:AV):Option AV:=
 match x,y with
 | .int k a,.int k' b=>match op with
  | .shl=>mr .shl k a b
  | .shr=>mr .shr k a b
  | op=>if k=k' then lF op k a b else none
 | .str a,.str b=>yQ op a b
 | x,y=>match op with
  | .eql=>(bh c 20 t x y).map .bool
  | .neq=>(bh c 20 t x y).map fun b=> .bool (!b)
  | _=>none
def HO:Operand->Bool
 | .const .nilIface=>true
 | _=>false
def Aq (c:av) (t:TypeId) (op:BinOp) (x:AV):Option AV:=
 match c.ti t with
 | some i=>match i.desc with
  | .interface _=>match op,x with
   | .eql,.gR b=>some (.bool (!b))
   | .neq,.gR b=>some (.bool b)
   | .eql,.ma _ _ _=>some (.bool false)
   | .neq,.ma _ _ _=>some (.bool true)
   | _,_=>none
  | _=>none
 | none=>none
def HP (c:av) (t:TypeId) (op:BinOp) (q:Operand) (x y:AV):Option AV:=
 match HO q with
 | true=>Aq c t op x
 | false=>iG c t op x y
def M7 (op:UnOp) (x:AV):Option AV:=
 match op,x with
 | .neg,.int k n=>lF .sub k 0 n
 | .xor,.int k n=>lF .xor k (if k.signed then -1 else k.max) n
 | .not,.bool b=>some (.bool (!b))
 | _,_=>none
def byteOf:AV->Option UInt8
 | .int .u8 n=>some (UInt8.ofNat n.toNat)
 | _=>none
def bytesOf:List AV->Option (List UInt8)
 | []=>some []
 | v::r=>match byteOf v,bytesOf r with
  | some c,some l=>some (c::l)
  | _,_=>none
def ak (c:UInt8):AV:= .int .u8 c.toNat
inductive c9 where
 | none
 | new (b:ad)
 | gQ (k:Nat) (b:ad)
 | move (k:Nat) (b:ad)
 | app (b:ad)
 | qg (k:Nat)
 | all (bs:List ad)
abbrev Out:=Option (AV×c9)
def nI:Nat:=16777216
def bX:Nat:=70368744177664
def ad.at (bs:List ad) (k:Nat):ad:=bs.getD k .dead
def elems (bs:List ad):AV->Option (Nat×List AV)
 | .ag _ sz es=>some (sz,es)
 | .cv _=>some (0, [])
 | .ax k n=>match ad.at bs k with
  | .sl _ sz es=>if n=es.length then some (sz,es) else none
  | _=>none
 | .gn k n lo hi=>match ad.at bs k with
  | .sl _ sz es=>if n=es.length∧lo<=hi∧hi<=n then some (sz,(es.take hi).drop lo) else none
  | _=>none
 | _=>none
def c7 (x:Option AV) (d lim:Nat):Option Nat:=
 match x with
 | .none=>some d
 | some (.int _ i)=>if 0<=i∧i<=(lim:Int) then some i.toNat else .none
 | _=> .none
def sV (agg:Bool) (n:Nat) (cs:List AV):Option AV:=
 if cs.length=n∧ai cs=true∧eS cs=true then match agg with
  | true=>some (.agg cs)
  | false=>match cs with
   | [v]=>match v with
    | .agg _=> .none
    | v=>some v
   | _=> .none
 else .none
def ab (cs:List AV) (off:Nat) (v:List AV):List AV:=cs.take off++v++cs.drop (off+v.length)
def uu (place:Nat->Option (Nat×Nat)) (cs:List AV):List (Nat×AV)->Option (List AV)
 | []=>some cs
 | (i,v)::rest=>match place i with
  | .none=> .none
  | some (off,size)=>if v.cells.length=size∧off+size<=cs.length∧eS v.cells=true then uu place (ab cs off v.cells) rest else .none
def lG (es:List AV) (sz:Nat):List (Nat×AV)->Option (List AV)
 | []=>some es
 | (i,v)::rest=>if i<es.length∧v.cells.length=sz∧v.plain=true∧eS v.cells=true then lG (es.set i v) sz rest else .none
def ng (t:Env) (xs:List Operand):List AV:=xs.map (ev t)
def HQ:AV->List AV->Option AV
 | x, []=>some x
 | .int k a,.int k' b::rest=>if k=k' then HQ (.int k (if b<a then b else a)) rest else .none
 | _,_=> .none
def HR:AV->List AV->Option AV
 | x, []=>some x
 | .int k a,.int k' b::rest=>if k=k' then HR (.int k (if b>a then b else a)) rest else .none
 | _,_=> .none
def qh (d:TypeDesc) (x:AV) (bs:List ad):Out:=
 match d with
 | .string=>match x with
  | .str s=>some (.int .i64 s.length,.none)
  | _=> .none
 | .slice _=>match elems bs x with
  | some (_,es)=>some (.int .i64 es.length,.none)
  | .none=> .none
 | .array n _=>some (.int .i64 n,.none)
 | _=> .none
def nJ (i:TI):Bool:=
 match i.zero with
 | some z=>z.length==i.size
 | .none=>false
def e8 (i:TI) (el:TypeId) (bs:List ad) (s:AV) (xs:List AV) (id:Nat):Out:=
 match s with
 | .ag (some true) z []=>match xs with
  | []=>some (.ag (some true) z [],.none)
  | xs=>if xs.length*(i.bytes+1)<=bX∧nJ i=true then some (.ax id xs.length,.new (.sl ⟨false,some el,none⟩ i.size xs)) else .none
 | .cv nl=>match xs with
  | []=>some (.cv nl,.none)
  | xs=>if xs.length*(i.bytes+1)<=bX∧nJ i=true then some (.ax id xs.length,.new (.sl ⟨false,some el,none⟩ i.size xs)) else .none
 | .ax k n=>match ad.at bs k with
  | .sl sh sz es=>if n=es.length∧sz=i.size∧sh.ty=some el∧(n+xs.length)*(i.bytes+1)<=bX∧nJ i=true then some (.ax k (n+xs.length),.gQ k (.sl ⟨sh.out,sh.ty,none⟩ sz (es++xs))) else .none
  | _=> .none
 | .gn k n lo hi=>match ad.at bs k with
  | .sl sh sz es=>if n=es.length∧lo=0∧hi<=n∧xs≠ []∧sz=i.size∧sh.out=false∧sh.ty=some el∧(hi+xs.length)*(i.bytes+1)<=bX∧nJ i=true then some (.ax id (hi+xs.length),.move k (.sl ⟨sh.out,sh.ty,none⟩ sz (es.take hi++xs))) else .none
  | _=> .none
 | _=> .none
def im (c:av) (bs:List ad) (st xt:TypeId) (s x:AV) (id:Nat):Out:=
 match c.ti st,c.ti xt with
 | some i,some j=>match i.desc with
  | .slice e=>match c.ti e with
   | some k=>match j.desc with
    | .slice _=>match elems bs x with
     | some (sz,xs)=>if sz=k.size∨xs= [] then e8 k e bs s xs id else .none
     | .none=> .none
    | .string=>match x with
     | .str l=>if k.size=1 then e8 k e bs s (l.map ak) id else .none
     | _=> .none
    | _=> .none
   | .none=> .none
  | _=> .none
 | _,_=> .none
def partOf:AV->Option (Nat×Nat×Nat×Nat)
 | .ax k n=>some (k,n,0,n)
 | .gn k n lo hi=>some (k,n,lo,hi)
 | _=>none
def Ar (i:TI) (el:TypeId) (bs:List ad) (d:AV) (xs:List AV):Out:=
 match partOf d with
 | some (k,n,lo,hi)=>match ad.at bs k with
  | .sl sh sz es=>if n=es.length∧lo<=hi∧hi<=n∧sz=i.size∧sh.out=false∧sh.ty=some el then (if lo=hi then some (.int .i64 0,.none) else some (.int .i64 (xs.take (hi-lo)).length,.gQ k (.sl ⟨sh.out,sh.ty,none⟩ sz (ab es lo (xs.take (hi-lo)))))) else .none
  | _=> .none
 | .none=>match d with
  | .cv _=>some (.int .i64 0,.none)
  | _=> .none
def wk (c:av) (bs:List ad) (st:TypeId) (d x:AV):Out:=
 match c.ti st with
 | some i=>match i.desc with
  | .slice e=>match c.ti e with
   | some k=>match elems bs x with
    | some (sz,xs)=>if sz=k.size∨xs= [] then Ar k e bs d xs else .none
    | .none=> .none
   | .none=> .none
  | _=> .none
 | .none=> .none
def Cc (x:AV) (bs:List ad):Out:=
 match x with
 | .ag (some true) 0 []=>some (.bZ,.none)
 | .ax k n=>match ad.at bs k with
  | .sl _ _ es=>if n=es.length then some (.cM k n 0 0,.none) else .none
  | _=> .none
 | _=> .none
def k8:List AV->Option (List UInt8)
 | []=>some []
 | .int .u8 n::r=>if 0<=n∧n<256 then (k8 r).map (UInt8.ofNat n.toNat:: ·) else none
 | _::_=>none
def Cd (c:av) (u:TypeId) (x n:AV) (bs:List ad):Out:=
 match x,n with
 | .bZ,.int .i64 0=>some (.str [],.none)
 | .cM k m 0 0,.int .i64 n=>match ad.at bs k,c.ti u with
  | .sl sh sz es,some j=>if m=es.length∧n=(m:Int)∧sh.ty=some u∧sz=1∧j.size=1∧m<=bX then (k8 es).map fun s=>(.str s,.gQ k (.sl ⟨sh.out,.none,none⟩ sz es)) else .none
  | _,_=> .none
 | _,_=> .none
def eH (c:av) (b:Builtin) (argTypes:List TypeId) (args:List AV) (bs:List ad) (id:Nat):Out:=
 match b with
 | .len=>match argTypes,args with
  | [t], [x]=>match c.ti t with
   | some i=>qh i.desc x bs
   | .none=> .none
  | _,_=> .none
 | .append=>match argTypes,args with
  | [st,xt], [s,x]=>im c bs st xt s x id
  | _,_=> .none
 | .min=>match args with
  | x::rest=>(HQ x rest).map (·,.none)
  | _=> .none
 | .max=>match args with
  | x::rest=>(HR x rest).map (·,.none)
  | _=> .none
 | .unsafeSliceData=>match args with
  | [x]=>Cc x bs
  | _=> .none
 | .unsafeString=>match argTypes,args with
  | [t,_], [x,n]=>match c.descOf t with
   | some (.pointer u)=>Cd c u x n bs
   | _=> .none
  | _,_=> .none
 | .copy=>match argTypes,args with
  | [st,_], [d,x]=>wk c bs st d x
  | _,_=> .none
 | _=> .none
def wm (c a b:AV):Out:=
 match c with
 | .bool true=>some (a,.none)
 | .bool false=>some (b,.none)
 | _=> .none
def wq (i:Option TI) (e:TypeId) (id:Nat):Out:=
 match i with
 | some i=>match i.zero with
  | some z=>some (.ptr id 0,.new (.var e z))
  | .none=> .none
 | .none=> .none
def JZ (e:TypeId) (cs:List AV) (id:Nat):Out:=
 match eS cs with
 | true=>some (.ptr id 0,.new (.var e cs))
 | false=> .none
def As (fs:List (TypeId×Nat×Nat)) (i:Nat):Option (Nat×Nat):=(fs[i]?).map (·.2)
def Au (n i:Nat):Option (Nat×Nat):=some (i*n,n)
def sW (c:av) (i:Option TI) (parts:List (Nat×AV)):Out:=
 match i with
 | some i=>match i.zero with
  | some z=>match i.desc with
   | .struct _=>(uu (As i.fields) z parts).map fun cs=>(.agg cs,.none)
   | .array _ e=>match c.ti e with
    | some j=>(uu (Au j.size) z parts).map fun cs=>(.agg cs,.none)
    | .none=> .none
   | _=> .none
  | .none=> .none
 | .none=> .none
mutual
def e9 (bs:List ad):AV->Option AV
 | .ax k n=>match ad.at bs k with
  | .sl _ sz es=>if n=es.length then some (.ag .none sz es) else .none
  | _=> .none
 | .gn k n lo hi=>match ad.at bs k with
  | .sl _ sz es=>if n=es.length∧lo<=hi∧hi<=n then some (.ag .none sz ((es.take hi).drop lo)) else .none
  | _=> .none
 | .agg cs=>match ai cs with
  | true=>some (.agg cs)
  | false=>(dC bs cs).map .agg
 | v=>some v
def dC (bs:List ad):List AV->Option (List AV)
 | []=>some []
 | v::r=>match e9 bs v,dC bs r with
  | some a,some l=>some (a::l)
  | _,_=> .none
end
mutual
def AV.leaves:AV->List AV
 | .agg cs=>match ai cs with
  | true=> []
  | false=>aU cs
 | v=> [v]
def aU:List AV->List AV
 | []=> []
 | v::r=>v.leaves++aU r
end
def aR (bs:List ad):List AV->List ad
 | []=>bs
 | .ax k _::r=>aR (match ad.at bs k with | .sl sh sz es=>bs.set k (.sl ⟨true,sh.ty,none⟩ sz es) | _=>bs) r
 | .gn k _ _ _::r=>aR (match ad.at bs k with | .sl sh sz es=>bs.set k (.sl ⟨true,sh.ty,none⟩ sz es) | _=>bs) r
 | _::r=>aR bs r
def mv:List AV->Bool
 | []=>false
 | .ax _ _::_=>true
 | .gn _ _ _ _::_=>true
 | _::r=>mv r
def iH (c:av) (i:Option TI) (len:Nat) (parts:List (Nat×AV)) (id:Nat):Out:=
 match i with
 | some i=>match i.desc with
  | .slice e=>match c.ti e with
   | some j=>match j.zero with
    | some z=>if len=0 then (match parts with | []=>some (.cv (some false),.none) | _::_=> .none) else if len*j.size<=nI then match sV j.agg j.size z with
      | some ze=>(lG (List.replicate len ze) j.size parts).map fun es=>(.ax id len,.new (.sl ⟨false,some e,none⟩ j.size es))
      | .none=> .none
     else .none
    | .none=> .none
   | .none=> .none
  | _=> .none
 | .none=> .none
def AV.dD:AV->AV
 | .cv nl=> .ag nl 0 []
 | v=>v
def AV.soft:AV->AV
 | .agg cs=> .agg (cs.map AV.dD)
 | v=>v.dD
def gB (c:av) (i:Option TI) (len:Nat) (parts:List (Nat×AV)) (id:Nat) (bs:List ad):Out:=
 match ai (parts.map (·.2)) with
 | true=>iH c i len parts id
 | false=>match dC bs (parts.map (·.2)),bs[id]? with
  | some l,some .dead=>match ai l,iH c i len ((parts.map (·.1)).zip l) id with
   | true,some (v,.new b)=>some (v,.all ((aR bs (aU (parts.map (·.2)))).set id b))
   | _,_=> .none
  | _,_=> .none
def fa (c:av) (i:Option TI) (len:Nat) (parts:List (Nat×AV)) (id:Nat) (bs:List ad):Out:=
 gB c i len (parts.map fun p=>(p.1,p.2.soft)) id bs
def linked (sh:Hd) (j:Nat) (i:TI) (cs:List AV):List AV:=
 match sh.link with
 | some (i',j',k',n)=>match i.agg with
  | false=>if i'=j then cs.set j' (.ax k' n) else cs
  | true=>cs
 | none=>cs
def nK (i:Option TI) (a:AV) (bs:List ad):Out:=
 match i with
 | some i=>match a with
  | .ptr k off=>match ad.at bs k with
   | .var _ cs=>(iF i cs off).map (·,.none)
   | _=> .none
  | .cM k n j off=>match ad.at bs k with
   | .sl sh _ es=>if n=es.length then match es[j]? with
     | some e=>(iF i (linked sh j i e.cells) off).map (·,.none)
     | .none=> .none
    else .none
   | _=> .none
  | .dj cs=>(iF i cs 0).map (·,.none)
  | _=> .none
 | .none=> .none
def cY (e:AV) (off:Nat) (v:List AV):Option AV:=
 match e with
 | .agg cs=>if off+v.length<=cs.length∧ai v=true then some (.agg (ab cs off v)) else .none
 | _=>match off,v with
  | 0, [c]=>if c.plain=true then (match c with | .agg _=> .none | c=>some c) else .none
  | _,_=> .none
def J0:List AV->Option (Nat×Nat)
 | [.ax k m]=>some (k,m)
 | _=>none
def jt (bs:List ad) (k k' m j off:Nat) (sh:Hd) (sz:Nat) (es:List AV) (e:AV):Out:=
 match e9 bs (.ax k' m),decide (k'=k) with
 | some l,false=>(cY e off [l]).map fun e'=>(.aL [],.all ((aR bs [.ax k' m]).set k (.sl ⟨sh.out,sh.ty,some (j,off,k',m)⟩ sz (es.set j e'))))
 | _,_=> .none
theorem k9 {bs:List ad} {k k' m j off:Nat} {sh:Hd} {sz:Nat} {es:List AV} {x r:AV} {e:c9} (h:jt bs k k' m j off sh sz es x=some (r,e)): ∃b,e= .all b:=by
 unfold jt at h;split at h
 ·rename_i l _ _;cases hst:cY x off [l] with
  | none=>rw [hst] at h;cases h
  | some y=>rw [hst] at h;cases h;exact ⟨_,rfl⟩
 ·cases h
def nM (i:Option TI) (a:AV) (v:List AV) (bs:List ad):Out:=
 match i with
 | some i=>if v.length=i.size∧eS v=true then match a with
   | .ptr k off=>match ad.at bs k with
    | .var ty cs=>if off+v.length<=cs.length then some (.aL [],.gQ k (.var ty (ab cs off v))) else .none
    | _=> .none
   | .cM k n j off=>match ad.at bs k with
    | .sl sh sz es=>if n=es.length∧sh.out=false∧sh.ty.isSome=true then match es[j]? with
      | some e=>match J0 v with
       | some (k',m)=>jt bs k k' m j off sh sz es e
       | .none=>(cY e off v).map fun e'=>(.aL [],.gQ k (.sl ⟨sh.out,sh.ty,none⟩ sz (es.set j e')))
      | .none=> .none
     else .none
    | _=> .none
   | _=> .none
  else .none
 | .none=> .none
def eY:AV->Bool
 | .int _ _ | .bool _ | .str _=>true
 | _=>false
def fI:AV->Bool
 | .agg cs=>cs.all eY
 | v=>eY v
def gp:AV->AV->Bool
 | .int k a,.int k' b=>decide (k=k')&&a==b
 | .bool a,.bool b=>a==b
 | .str a,.str b=>a==b
 | _,_=>false
def lC:List AV->List AV->Bool
 | [], []=>true
 | a::r,b::s=>gp a b&&lC r s
 | _,_=>false
def sameKey:AV->AV->Bool
 | .agg a,.agg b=>lC a b
 | a,b=>gp a b
def ga (part:TypeId->List AV->Nat->Option AV) (fine:TypeId->AV->Bool) (cs:List AV):List (TypeId×Nat×Nat)->Bool
 | []=>true
 | (t,off,_)::r=>match part t cs off with
  | some a=>fine t a&&ga part fine cs r
  | none=>false
def rh (part:TypeId->List AV->Nat->Option AV) (fine:TypeId->AV->Bool) (e:TypeId) (n:Nat) (cs:List AV):List Nat->Bool
 | []=>true
 | i::r=>match part e cs (i*n) with
  | some a=>fine e a&&rh part fine e n cs r
  | none=>false
def bH (c:av):Nat->TypeId->AV->Bool
 | 0,_,_=>false
 | d+1,t,x=>match c.ti t with
  | some i=>match i.desc with
   | .struct _=>match x with
    | .agg cs=>ga (iD c) (bH c d) cs i.fields
    | _=>false
   | .array n e=>match x,c.ti e with
    | .agg cs,some j=>rh (iD c) (bH c d) e j.size cs (List.range n)
    | _,_=>false
   | .interface _=>false
   | _=>true
  | none=>false
def kg (eq:AV->AV->Option Bool) (k:AV):List (AV×AV×Nat)->Nat->Option (Option (Nat×AV×AV×Nat))
 | [],_=>some none
 | e::r,i=>match eq k e.1 with
  | some true=>some (some (i,e))
  | some false=>kg eq k r (i+1)
  | none=>none
def jF (i:TI):Option AV:=
 match i.zero with
 | some z=>match i.agg with
  | true=>some (.agg z)
  | false=>match z with
   | [x]=>some x
   | _=>none
 | none=>none
def dq (x:AV) (bs:List ad):Option (List (AV×AV×Nat)):=
 match x with
 | .ja=>some []
 | .bT k=>match ad.at bs k with
  | .mp es _=>some es
  | _=>none
 | _=>none
def iZ (ok:Bool) (v:AV) (b:Bool):AV:=
 match ok with
 | true=> .aL [v,.bool b]
 | false=>v
def bU (c:av) (i:Option TI) (x k:AV) (ok:Bool) (bs:List ad):Out:=
 match i with
 | some i=>match i.desc with
  | .map kt el=>match dq x bs with
   | some es=>match bH c 8 kt k with
    | true=>match kg (bh c 20 kt) k es 0 with
     | some (some (_,e))=>some (iZ ok e.2.1 true,.none)
     | some .none=>match c.ti el with
      | some j=>(jF j).map fun z=>(iZ ok z false,.none)
      | .none=> .none
     | .none=> .none
    | false=> .none
   | .none=> .none
  | _=> .none
 | .none=> .none
def gb:AV->Bool
 | .ax _ _=>true
 | .any=>true
 | x=>x.plain
def ay (c:av) (i:Option TI) (m k x:AV) (bs:List ad):Out:=
 match i with
 | some i=>match i.desc with
  | .map kt _=>match m with
   | .bT b=>match ad.at bs b with
    | .mp es clock=>match bH c 8 kt k&&fI k&&gb x with
     | true=>match kg (bh c 20 kt) k es 0 with
      | some (some (j,e))=>match sameKey e.1 k with
       | true=>some (.aL [],.gQ b (.mp (es.set j (k,x,e.2.2)) clock))
       | false=> .none
      | some .none=>some (.aL [],.gQ b (.mp (es++ [(k,x,clock)]) (clock+1)))
      | .none=> .none
     | false=> .none
    | _=> .none
   | _=> .none
  | _=> .none
 | .none=> .none
def ju (c:av) (i:Option TI) (m k:AV) (bs:List ad):Out:=
 match i with
 | some i=>match i.desc with
  | .map kt el=>match m with
   | .bT b=>match ad.at bs b with
    | .mp es clock=>match bH c 8 kt k&&fI k with
     | true=>match kg (bh c 20 kt) k es 0 with
      | some (some (_,e))=>match sameKey e.1 k with
       | true=>some (.aL [e.2.1,.int .i64 e.2.2],.gQ b (.mp es clock))
       | false=> .none
      | some .none=>match c.ti el with
       | some j=>match jF j with
        | some z=>match z.plain with
         | true=>some (.aL [z,.int .i64 clock],.gQ b (.mp (es++ [(k,z,clock)]) (clock+1)))
         | false=> .none
        | .none=> .none
       | .none=> .none
      | .none=> .none
     | false=> .none
    | _=> .none
   | _=> .none
  | _=> .none
 | .none=> .none
def uj (n:Int):List (AV×AV×Nat)->Nat->Option (Nat×AV×AV×Nat)
 | [],_=>none
 | e::r,i=>if (e.2.2:Int)=n then some (i,e) else uj n r (i+1)
def gg (m s x:AV) (bs:List ad):Out:=
 match m,s with
 | .bT b,.int _ n=>match ad.at bs b with
  | .mp es clock=>match gb x with
   | true=>match uj n es 0 with
    | some (j,e)=>some (.aL [],.gQ b (.mp (es.set j (e.1,x,e.2.2)) clock))
    | .none=> .none
   | false=> .none
  | _=> .none
 | _,_=> .none
def nN (x:AV) (bs:List ad):Out:=
 match x with
 | .lE k=>match ad.at bs k with
  | .iter (.map m seen clock)=>match seen.getLast?,ad.at bs m with
   | some n,.mp es clock'=>if clock'=clock then (match uj n es 0 with
     | some (_,e)=>some (.aL [e.1,e.2.1],.none)
     | .none=> .none) else .none
   | _,_=> .none
  | _=> .none
 | _=> .none
def gw (r:Option AV) (i:Option TI) (id:Nat):Out:=
 match i with
 | some i=>match i.desc with
  | .map _ _=>match r with
   | .none=>some (.bT id,.new (.mp [] 0))
   | some (.int _ _)=>some (.bT id,.new (.mp [] 0))
   | _=> .none
  | _=> .none
 | .none=> .none
def mw (i:Option TI) (x:AV) (bs:List ad) (id:Nat):Out:=
 match i with
 | some i=>match i.desc,x with
  | .string,.str s=>some (.lE id,.new (.iter (.str s 0)))
  | .map _ _,.bT m=>match ad.at bs m with
   | .mp _ clock=>match decide (m<id) with
    | true=>some (.lE id,.new (.iter (.map m [] clock)))
    | false=> .none
   | _=> .none
  | _,_=> .none
 | .none=> .none
def my (s:List UInt8) (pos:Nat):Nat×Nat:=Utf8.decode ⟨s.toArray⟩ pos
def wu (x:AV) (str:Bool) (bs:List ad):Out:=
 match x,str with
 | .lE k,true=>match ad.at bs k with
  | .iter (.str s pos)=>match decide (pos<s.length) with
   | true=>some (.aL [.bool true,.int .i64 pos,.int .i32 (my s pos).1],.gQ k (.iter (.str s (pos+(my s pos).2))))
   | false=>some (.aL [.bool false],.gQ k (.iter (.str s pos)))
  | _=> .none
 | _,_=> .none
def g9 (x:AV):Out:=
 match x with
 | .ptr k off=>some (.ptr k off,.none)
 | .dj cs=>some (.dj cs,.none)
 | .fn f a b=>some (.fn f a b,.none)
 | _=> .none
def wx (c:av) (t:TypeId) (x:AV):Out:=
 match c.ti t with
 | some i=>match i.desc,x with
  | .int _,.int k n=>some (.ma t k n,.none)
  | _,_=> .none
 | .none=> .none
def ea (c:av) (src dst:Option TI) (x:AV) (bs:List ad) (id:Nat):Out:=
 match src,dst with
 | some s,some d=>match d.desc,x with
  | .unsafePointer,.ptr k off=>match s.desc,ad.at bs k with
   | .pointer t,.var _ cs=>match c.ti t with
    | some j=>if j.size≠0∧off<cs.length then some (.ptr k off,.none) else .none
    | .none=> .none
   | _,_=> .none
  | .pointer u,.ptr k 0=>match s.desc,ad.at bs k with
   | .unsafePointer,.var ty cs=>match c.ti u with
    | some j=>if ty=u∧j.size=cs.length∧j.size≠0 then some (.ptr k 0,.none) else .none
    | .none=> .none
   | _,_=> .none
  | .int k,.int _ n=>some (.int k (k.wrap n),.none)
  | .string,.str s=>some (.str s,.none)
  | .string,.int _ n=>some (.str (Utf8.encode n).data.toList,.none)
  | .slice e,.str l=>match s.desc,c.descOf e with
   | .string,some (.int .u8)=>if l= [] then some (.ag (some false) 1 [],.none) else if l.length<=bX then some (.ax id l.length,.new (.sl ⟨false,some e,none⟩ 1 (l.map ak))) else .none
   | _,_=> .none
  | .string,x=>match s.desc with
   | .slice e=>match c.descOf e,elems bs x with
    | some (.int .u8),some (_,es)=>(bytesOf es).map fun s=>(.str s,.none)
    | _,_=> .none
   | _=> .none
  | _,_=> .none
 | _,_=> .none
def jJ (c:av) (i:Option TI) (l m:AV) (id:Nat):Out:=
 match i,l,m with
 | some i,.int _ l,.int _ m=>match i.desc with
  | .slice e=>match c.ti e with
   | some j=>match j.zero with
    | some z=>if 0<=l∧l<=m∧m*(j.bytes+1)<=(bX:Int) then match sV j.agg j.size z with
      | some ze=>if m=0 then some (.cv (some false),.none) else some (.ax id l.toNat,.new (.sl ⟨false,some e,none⟩ j.size (List.replicate l.toNat ze)))
      | .none=> .none
     else .none
    | .none=> .none
   | .none=> .none
  | _=> .none
 | _,_,_=> .none
def sX (i:Option TI) (sz:Nat) (es:List AV):Bool:=
 match i with
 | some i=>sz==i.size || es.isEmpty
 | .none=>false
def dP (c:av) (d:TypeDesc) (x:AV) (lo hi:Option AV) (bs:List ad):Out:=
 match d,x with
 | .string,.str s=>match c7 hi s.length s.length with
  | some h=>(c7 lo 0 h).map fun l=>(.str ((s.take h).drop l),.none)
  | .none=> .none
 | .slice el,.ag nl sz es=>match sX (c.ti el) sz es with
  | true=>match c7 hi es.length es.length with
   | some h=>(c7 lo 0 h).map fun l=>(.ag nl sz ((es.take h).drop l),.none)
   | .none=> .none
  | false=> .none
 | .slice el,.ax k n=>match ad.at bs k with
  | .sl sh sz es=>if n=es.length∧sX (c.ti el) sz es=true then match c7 hi es.length es.length with
    | some h=>(c7 lo 0 h).map fun l=>match c.cut with
     | true=>if l=0∧h=n then (.ax k n,.none) else (.gn k n l h,.none)
     | false=>(.ag .none sz ((es.take h).drop l),match sh.out,sh.link with | true,.none=> .none | _,_=> .gQ k (.sl ⟨true,sh.ty,none⟩ sz es))
    | .none=> .none
   else .none
  | _=> .none
 | .slice el,.gn k n a z=>match ad.at bs k with
  | .sl _ sz es=>if n=es.length∧a<=z∧z<=n∧sX (c.ti el) sz es=true then match c7 hi (z-a) (z-a) with
    | some h=>(c7 lo 0 h).map fun l=>(.gn k n (a+l) (a+h),.none)
    | .none=> .none
   else .none
  | _=> .none
 | _,_=> .none
def isZero:Option AV->Bool
 | some (.int _ n)=>n==0
 | .none=>false
 | _=>false
def kv (c:av) (d:TypeDesc) (x:AV) (lo hi mx:Option AV) (bs:List ad):Out:=
 match d with
 | .slice el=>match elems bs x,c.ti el with
  | some _,some _=>if (lo.isNone || isZero lo)&&isZero hi&&isZero mx then some (.cv none,.none) else .none
  | _,_=> .none
 | _=> .none
def nh (x:AV) (o:Nat) (bs:List ad):Out:=
 match x with
 | .ptr k off=>some (.ptr k (off+o),.none)
 | .cM k n i off=>match ad.at bs k with
  | .sl _ _ es=>if n=es.length∧i<n then some (.cM k n i (off+o),.none) else .none
  | _=> .none
 | .dj cs=>some (.dj (cs.drop o),.none)
 | _=> .none
def cN (i:Option TI) (x:AV) (f:Nat) (bs:List ad):Out:=
 match i with
 | some i=>match i.desc with
  | .struct _=>match i.fields[f]? with
   | some (_,o,n)=>match n with
    | 0=> .none
    | _+1=>nh x o bs
   | .none=> .none
  | _=> .none
 | .none=> .none
def qi (c:av) (i:Option TI) (x:AV) (f:Nat):Out:=
 match i,x with
 | some i,.agg cs=>match i.desc with
  | .struct _=>match i.fields[f]? with
   | some (ty,o,_)=>(iD c ty cs o).map (·,.none)
   | .none=> .none
  | _=> .none
 | _,_=> .none
def er (c:av) (i:Option TI) (x:AV) (ix:AV) (bs:List ad):Out:=
 match i,ix with
 | some i,.int _ n=>match i.desc with
  | .array len e=>if 0<=n∧n<(len:Int) then match c.ti e with
    | some j=>nh x (n.toNat*j.size) bs
    | .none=> .none
   else .none
  | .slice e=>match c.ti e with
   | some j=>match x with
    | .ag _ sz es=>if 0<=n∧sz=j.size then match es[n.toNat]? with
      | some v=>some (.dj v.cells,.none)
      | .none=> .none
     else .none
    | .ax k m=>match ad.at bs k with
     | .sl _ sz es=>if 0<=n∧m=es.length∧n<(m:Int)∧sz=j.size then some (.cM k m n.toNat 0,.none) else .none
     | _=> .none
    | .gn k m lo hi=>match ad.at bs k with
     | .sl _ sz es=>if 0<=n∧m=es.length∧hi<=m∧(lo:Int)+n<(hi:Int)∧sz=j.size then some (.cM k m (lo+n.toNat) 0,.none) else .none
     | _=> .none
    | _=> .none
   | .none=> .none
  | _=> .none
 | _,_=> .none
def qj (c:av) (i:Option TI) (x:AV) (ix:AV):Out:=
 match i,ix with
 | some i,.int _ n=>match i.desc,x with
  | .string,.str s=>if 0<=n then match s[n.toNat]? with
    | some c=>some (.int .u8 c.toNat,.none)
    | .none=> .none
   else .none
  | .array len e,.agg cs=>if 0<=n∧n<(len:Int) then match c.ti e with
    | some j=>(iF j cs (n.toNat*j.size)).map (·,.none)
    | .none=> .none
   else .none
  | _,_=> .none
 | _,_=> .none
def jK (x:AV) (i:Nat):Out:=
 match x with
 | .aL vs=>(vs[i]?).map (·,.none)
 | _=> .none
def fR (c:av) (op:Op) (t:Env) (bs:List ad) (id:Nat):Out:=
 match op with
 | .move x | .assign x=>some (ev t x,.none)
 | .pick x a b=>wm (ev t x) (ev t a) (ev t b)
 | .alloc e=>wq (c.ti e) e id
 | .box e x=>JZ e (ev t x).cells id
 | .build ty parts=>sW c (c.ti ty) (parts.toList.map fun p=>(p.1,ev t p.2))
 | .buildSlice ty len parts=>fa c (c.ti ty) len (parts.toList.map fun p=>(p.1,ev t p.2)) id bs
 | .load ty a=>nK (c.ti ty) (ev t a) bs
 | .store ty a x=>nM (c.ti ty) (ev t a) (ev t x).cells bs
 | .nilCheck x=>g9 (ev t x)
 | .makeInterface ty x=>wx c ty (ev t x)
 | .binOp op ty x y _=>(HP c ty op y (ev t x) (ev t y)).map (·,.none)
 | .unOp op _ x=>(M7 op (ev t x)).map (·,.none)
 | .convert src dst x=>ea c (c.ti src) (c.ti dst) (ev t x) bs id
 | .makeFunc (.func f) first caps=>some (.fn f (ng t first.toList) (ng t caps.toList),.none)
 | .makeSlice ty l m=>jJ c (c.ti ty) (ev t l) (ev t m) id
 | .slice ty x lo hi mx=>match c.ti ty with
  | some i=>match mx with
   | .none=>dP c i.desc (ev t x) (lo.map (ev t)) (hi.map (ev t)) bs
   | some m=>kv c i.desc (ev t x) (lo.map (ev t)) (hi.map (ev t)) (some (ev t m)) bs
  | .none=> .none
 | .fieldAddr sty x f=>cN (c.ti sty) (ev t x) f bs
 | .field sty x f=>qi c (c.ti sty) (ev t x) f
 | .indexAddr ty x ix=>er c (c.ti ty) (ev t x) (ev t ix) bs
 | .index ty x ix=>qj c (c.ti ty) (ev t x) (ev t ix)
 | .extract x i=>jK (ev t x) i
 | .makeMap ty r=>gw (r.map (ev t)) (c.ti ty) id
 | .range ty x=>mw (c.ti ty) (ev t x) bs id
 | .next x str=>wu (ev t x) str bs
 | .lookup ty x k ok=>bU c (c.ti ty) (ev t x) (ev t k) ok bs
 | .mapUpdate ty m k x=>ay c (c.ti ty) (ev t m) (ev t k) (ev t x) bs
 | .insert ty m k x=>ay c (c.ti ty) (ev t m) (ev t k) (ev t x) bs
 | .mapEntry ty m k=>ju c (c.ti ty) (ev t m) (ev t k) bs
 | .entryStore _ m s x=>gg (ev t m) (ev t s) (ev t x) bs
 | .entry x=>nN (ev t x) bs
 | .call k=>match k.callee with
  | .builtin b=>eH c b k.argTypes.toList (ng t k.args.toList) bs id
  | _=> .none
 | _=> .none
def asks:Op->Bool
 | .alloc _ | .box _ _ | .buildSlice _ _ _ | .makeSlice _ _ _ | .convert _ _ _ | .makeMap _ _ | .range _ _=>true
 | .call k=>match k.callee with
  | .builtin .append=>true
  | _=>false
 | _=>false
def aW (ops:Array Oper) (t:Env) (g:Option (Nat×Bool)):Option Bool:=
 match g with
 | .none=>some true
 | some (j,want)=>match (ops[j]?).bind (·.dst) with
  | .none=>some false
  | some d=>match t.get .any d with
   | .bool b=>some (b==want)
   | .aL _=>some false
   | _=> .none
def aB (t:Env) (d:Option Tmp) (v:AV):Env:=
 match d with
 | some i=>t.set i v
 | .none=>t
def c9.on (e:c9) (bs:List ad) (id:Nat):Option (List ad):=
 match e with
 | .none=>some bs
 | .new b=>match bs[id]? with
  | some .dead=>some (bs.set id b)
  | _=> .none
 | .gQ k b=>some (bs.set k b)
 | .move k b=>match bs[id]? with
  | some .dead=>some ((bs.set k .gone).set id b)
  | _=> .none
 | .app b=>some (bs++ [b])
 | .qg k=>some (bs.set k .gone)
 | .all bs'=>some bs'
inductive Vq where
 | fn (f:FuncId)
 | gm (k:Nat) (s:Site) (env:List AV)
abbrev aF:=Vq->List AV->List ad->Option (AV×List ad)
def qk (v:AV):ad->Bool
 | .sl sh _ es=>sh.out || v.apart (es.flatMap AV.cells)
 | _=>false
def dv (v:AV) (bs:List ad):List AV->Bool
 | []=>true
 | .ax k _::r=>qk v (ad.at bs k)&&dv v bs r
 | .gn k _ _ _::r=>qk v (ad.at bs k)&&dv v bs r
 | _::r=>dv v bs r
def cn (k:Bool) (v:AV) (args:List AV) (bs:List ad):Out:=
 match v.flat || !mv args || (k&&dv v bs args) with
 | true=>some (v,.none)
 | false=>some (v,.all (aR bs args))
def Av (v:AV) (b:List ad):Option (Nat×Hd×Nat×List AV):=
 match v with
 | .ax k n=>match ad.at b k with
  | .sl sh sz es=>match sh.link with
   | none=>some (n,sh,sz,es)
   | some _=>none
  | _=>none
 | _=>none
theorem HS {v:AV} {b:List ad} {n:Nat} {sh:Hd} {sz:Nat} {es:List AV} (h:Av v b=some (n,sh,sz,es)): ∃k,v= .ax k n∧ad.at b k= .sl sh sz es∧sh.link=none:=by
 unfold Av at h;split at h
 ·split at h
  ·rename_i hb;split at h
   ·rename_i hl;cases h;exact ⟨_,rfl,hb,hl⟩
   ·cases h
  ·cases h
 ·cases h
def uv (c:av) (cf:aF) (f:FuncId) (args:List AV) (bs:List ad):Out:=
 match dC bs args with
 | some l=>match ai l with
  | true=>match c.ov f with
   | some g=>match g l with
    | some v=>if v.plain=true then cn (c.ED f) v (aU args) bs else .none
    | .none=> .none
   | .none=>match cf (.fn f) l [] with
    | some (v, [])=>if v.plain=true then cn (c.ED f) v (aU args) bs else .none
    | some (v,x::r)=>match Av v (x::r) with
     | some (n,sh,sz,es)=>match mv (aU args) with
      | true=>some (.ax bs.length n,.all (aR bs (aU args)++ [.sl sh sz es]))
      | false=>some (.ax bs.length n,.app (.sl sh sz es))
     | .none=>match cf (.fn f) args bs with
      | some (v,bs')=>some (v,.all bs')
      | .none=> .none
    | .none=> .none
  | false=>match cf (.fn f) args bs with
   | some (v,bs')=>some (v,.all bs')
   | .none=> .none
 | .none=> .none
def HT (G:Nat->Hd->Nat->List AV->List AV->Option AV) (args:List AV) (bs:List ad):Option (AV×Nat):=
 match args with
 | .ax k n::r=>match ad.at bs k with
  | .sl sh sz es=>match G n sh sz es r with
   | some v=>some (v,k)
   | .none=> .none
  | _=> .none
 | _=> .none
def ni (c:av) (cf:aF) (f:FuncId) (args:List AV) (bs:List ad):Out:=
 match c.iW f with
 | true=>match c.qg f with
  | some G=>match HT G args bs with
   | some (v,k)=>some (v,.qg k)
   | .none=> .none
  | .none=>match cf (.fn f) args bs with
   | some (v,bs')=>some (v,.all bs')
   | .none=> .none
 | false=>uv c cf f args bs
def nj (c:av) (cf:aF) (f:FuncId) (args:List AV) (bs:List ad):Out:=
 match c.EC f with
 | some g=>match g args bs with
  | some (v,bs')=>some (v,.all bs')
  | .none=> .none
 | .none=>ni c cf f args bs
def bj (c:av) (cf:aF) (op:Op) (t:Env) (bs:List ad) (id:Nat):Out:=
 match op with
 | .call k=>match k.callee with
  | .value f=>match ev t f with
   | .fn g first caps=>match c.ext g with
    | some G=>match G (first++ng t k.args.toList++caps) with
     | some v=>some (v,.none)
     | .none=> .none
    | .none=>nj c cf g (first++ng t k.args.toList++caps) bs
   | .gm l s env=>match cf (.gm l s env) (ng t k.args.toList) bs with
    | some (v,bs')=>some (v,.all bs')
    | .none=> .none
   | _=> .none
  | _=>fR c (.call k) t bs id
 | op=>fR c op t bs id
def next (id:Nat) (op:Op):Nat:=match asks op with
 | true=>id+1
 | false=>id
def ql (c:av) (cf:aF) (ops:Array Oper):List Oper->Nat->Env->List ad->Option St
 | [],_,t,bs=>some {t:=t,b:=bs}
 | o::rest,id,t,bs=>
  match aW ops t o.guard with
  | some true=>match bj c cf o.op t bs id with
   | some (v,e)=>match e.on bs id with
    | some bs'=>ql c cf ops rest (next id o.op) (aB t o.dst v) bs'
    | .none=> .none
   | .none=> .none
  | some false=>ql c cf ops rest (next id o.op) (aB t o.dst (.aL [])) bs
  | .none=> .none
def cU:List Oper->Nat
 | []=>0
 | o::r=>(match asks o.op with | true=>1 | false=>0)+cU r
mutual
def AV.under (n:Nat):AV->Bool
 | .ptr k _ | .cM k _ _ _ | .ax k _ | .gn k _ _ _ | .bT k | .lE k=>decide (k<n)
 | .agg cs=>ar n cs
 | .aL cs=>ar n cs
 | .fn _ a b=>ar n a&&ar n b
 | .gm k _ env=>decide (k<n)&&ar n env
 | _=>true
def ar (n:Nat):List AV->Bool
 | []=>true
 | v::r=>v.under n&&ar n r
end
def forget (n:Nat) (v:AV):AV:=match v.under n with
 | true=>v
 | false=> .any
def cK (n:Nat) (e:AV×AV×Nat):AV×AV×Nat:=(e.1,forget n e.2.1,e.2.2)
def fb (n:Nat) (sh:Hd):Hd:=
 match sh.link with
 | some (_,_,k,_)=>if k<n then sh else ⟨sh.out,sh.ty,none⟩
 | none=>sh
def bO (n:Nat):ad->ad
 | .var ty cs=> .var ty (cs.map (forget n))
 | .sl sh sz es=> .sl (fb n sh) sz es
 | .mp es clock=> .mp (es.map (cK n)) clock
 | b=>b
def St.cut (s:St) (n:Nat):St:=
 match decide (s.b.length<=n) with
 | true=>s
 | false=>{t:=s.t.map (forget n),b:=(s.b.take n).map (bO n)}
mutual
def AV.hand (n:Nat) (bs:List ad):AV->Option AV
 | .ax k m=>if k<n then some (.ax k m) else match ad.at bs k with
  | .sl _ sz es=>if m=es.length then some (.ag .none sz es) else .none
  | _=> .none
 | .gn k m lo hi=>if k<n then some (.gn k m lo hi) else match ad.at bs k with
  | .sl _ sz es=>if m=es.length∧lo<=hi∧hi<=m then some (.ag .none sz ((es.take hi).drop lo)) else .none
  | _=> .none
 | .agg cs=>(ky n bs cs).map .agg
 | .aL cs=>(ky n bs cs).map .aL
 | .cv nl=>some (.ag nl 0 [])
 | v=>some v
def ky (n:Nat) (bs:List ad):List AV->Option (List AV)
 | []=>some []
 | v::r=>match v.hand n bs,ky n bs r with
  | some a,some l=>some (a::l)
  | _,_=> .none
end
def vy (c:av) (t:Env) (bs:List ad):ResultVar->Option AV
 | .tmp i=>some (t.get .any i)
 | .cell a ty=>match t.get .any a with
  | .ptr k off=>match ad.at bs k,c.ti ty with
   | .var _ cs,some i=>iF i cs off
   | _,_=> .none
  | _=> .none
def iI (c:av) (t:Env) (bs:List ad):List ResultVar->Option (List AV)
 | []=>some []
 | r::l=>match vy c t bs r,iI c t bs l with
  | some a,some b=>some (a::b)
  | _,_=> .none
def Ce:List AV->AV
 | [v]=>v
 | l=> .aL l
def handOver (n:Nat) (s:St) (v:AV):Option (AV×List ad):=
 match v.hand n s.b with
 | some v'=>match v'.under n with
  | true=>some (v',((s.cut n).b))
  | false=>some (v,s.b)
 | .none=> .none
def gC:Env->Nat->List AV->Env
 | t,_, []=>t
 | t,i,v::r=>gC (t.set i v) (i+1) r
def start (n:Nat) (args:List AV):Env:=gC (Tr.mk .any 24 n) 0 args
def Aw (m:List Nat) (o:Oper):Nat:=
 o.after.toList.foldl (fun s e=>match Region.binds .any e with | true=>s ||| (2^e.on ||| m.getD e.on 0) | false=>s) 0
def Cf:List Oper->List Nat->List Nat
 | [],m=>m
 | o::r,m=>Cf r (m++ [Aw m o])
def fo (ops:Array Oper):List Nat:=Cf ops.toList []
def ordered (b:List Nat) (i j:Nat):Bool:=(b.getD j 0).testBit i
def cZ:List Oper->Nat->Bool
 | [],_=>true
 | o::r,k=>(o.after.toList.all fun e=> !Region.binds .any e || decide (e.on<k))&&cZ r (k+1)
def Vr:Op->Bool
 | .select _ _=>false
 | _=>true
def ri (ops:Array Oper) (b:List Nat) (o:Oper) (i:Nat):List Oper->Nat->Bool
 | [],_=>true
 | p::r,j=>(ordered b i j || o.apart ops p)&&ri ops b o i r (j+1)
def nO (ops:Array Oper) (b:List Nat):List Oper->Nat->Bool
 | [],_=>true
 | o::r,i=>Vr o.op&&ri ops b o i r (i+1)&&nO ops b r (i+1)
def sY (ops:Array Oper):Bool:=cZ ops.toList 0&&nO ops (fo ops) ops.toList 0
def blind:Op->Bool
 | .move _ | .assign _ | .pick _ _ _ | .build _ _ | .binOp _ _ _ _ _ | .unOp _ _ _ | .index _ _ _ | .field _ _ _ | .extract _ _ | .nilCheck _=>true
 | _=>false
def oU (ops:Array Oper) (j:Nat):Bool:=
 match ops[j]? with
 | some o=>blind o.op
 | none=>true
def Ax (ops:Array Oper) (b:List Nat) (i:Nat):Nat->Bool
 | 0=>true
 | j+1=>(j==i || ordered b i j || ordered b j i || oU ops j)&&Ax ops b i j
def alone (ops:Array Oper) (i:Nat):Bool:=Ax ops (fo ops) i ops.size
def bB:List Oper->Nat->Nat->Nat
 | _,0,base=>base
 | [],_+1,base=>base
 | o::r,i+1,base=>bB r i (next base o.op)
def dc (b:List Nat) (i:Nat):List Oper->Nat->Nat->List Nat
 | [],_,_=> []
 | o::r,j,id=>match asks o.op&& !ordered b j i with
  | true=>id::dc b i r (j+1) (next id o.op)
  | false=>dc b i r (j+1) (next id o.op)
def bc:List Nat->List ad->List ad
 | [],bs=>bs
 | k::r,bs=>bc r (bs.set k .dead)
def bo (ops:Array Oper) (base i:Nat) (bs:List ad):List ad:=bc (dc (fo ops) i ops.toList 0 base) bs
def cA:Op->Bool
 | .store _ _ _=>true
 | _=>false
def eN:Op->Bool
 | .call ⟨.builtin .append,_,_⟩=>true
 | .slice _ _ _ _ .none=>true
 | _=>false
def rj (op:Op):ad->Bool
 | .var _ _=>cA op
 | .sl _ _ _=>eN op
 | _=>false
def de:Op->Option Nat
 | .load _ (.tmp p)=>some p
 | .slice _ (.tmp p) _ _ .none=>some p
 | _=>none
def isLen:Op->Bool
 | .call ⟨.builtin .len,_,_⟩=>true
 | _=>false
def mA (o:Op):List Nat:=o.operands.toList.filterMap fun | .tmp i=>some i | _=>none
def mB (ops:Array Oper) (j q:Nat):List Oper->Nat->Bool
 | [],_=>true
 | o::r,k=>(o.dst !=some q || k==j || ordered (fo ops) j k || ordered (fo ops) k j)&&mB ops j q r (k+1)
def GM (ops:Array Oper) (j:Nat):Nat->Nat->Option Nat
 | 0,_=>none
 | n+1,p=>match ops.toList.filter fun o=>o.dst==some p with
  | []=>some p
  | [o]=>match o.op with
   | .move (.tmp q)=>match mB ops j q ops.toList 0 with
    | true=>some q
    | false=>none
   | .fieldAddr _ (.tmp q) _=>GM ops j n q
   | _=>none
  | _=>none
def iq (ops:Array Oper) (j p:Nat):Option Nat:=GM ops j 4 p
def fK (ops:Array Oper) (j:Nat) (op:Op):Option Nat:=
 match de op with
 | some p=>iq ops j p
 | none=>none
def nP (ops:Array Oper) (b:List Nat) (i:Nat):List Oper->Nat->List Nat
 | [],_=> []
 | o::r,j=>match j==i || ordered b i j || ordered b j i,fK ops j o.op with
  | false,some p=>p::nP ops b i r (j+1)
  | _,_=>nP ops b i r (j+1)
def gS (ops:Array Oper) (i:Nat):List Nat:=nP ops (fo ops) i ops.toList 0
def jb (ops:Array Oper) (j:Nat) (op o:Op):Bool:=blind o || (isLen o&&cA op) || (match fK ops j o with | some q=> !(mA op).contains q | none=>false)
def rm (ops:Array Oper) (b:List Nat) (i:Nat) (op:Op):List Oper->Nat->Bool
 | [],_=>true
 | o::r,j=>(j==i || ordered b i j || ordered b j i || jb ops j op o.op)&&rm ops b i op r (j+1)
def bg (ops:Array Oper) (i:Nat) (op:Op):Bool:=
 (cA op || eN op)&&rm ops (fo ops) i op ops.toList 0&&(gS ops i).all fun p=>mB ops i p ops.toList 0
def nk:AV->Option (Option Nat)
 | .ptr k _=>some (some k)
 | .cM k _ _ _=>some (some k)
 | .ax _ _=>some .none
 | .gn _ _ _ _=>some .none
 | _=> .none
def fA (k:Nat) (v:AV):Bool:=
 match nk v with
 | .none=>true
 | some .none=>false
 | some (some k')=>k' !=k
def nQ (ops:Array Oper):List Oper->Nat->Bool
 | [],_=>false
 | o::r,i=>(!alone ops i&&bg ops i o.op) || nQ ops r (i+1)
def oV (ops:Array Oper):Bool:=nQ ops ops.toList 0
def cB:Op->Bool
 | .call k=>match k.callee with
  | .value _=>true
  | _=>false
 | _=>false
def Ay (c:av):Op->Bool
 | .call k=>match k.callee with
  | .value (.func f)=>c.own f
  | _=>false
 | _=>false
def et:Op->Option Nat
 | .load _ (.tmp p)=>some p
 | .fieldAddr _ (.tmp p) _=>some p
 | .call ⟨.builtin .len,args,_⟩=>match args.toList with
  | [.tmp p]=>some p
  | _=>none
 | _=>none
def nR (ops:Array Oper) (j:Nat) (op:Op):Option Nat:=
 match et op with
 | some p=>iq ops j p
 | none=>none
def sZ (ops:Array Oper) (b:List Nat) (i:Nat):List Oper->Nat->List Nat
 | [],_=> []
 | o::r,j=>match j==i || ordered b i j || ordered b j i,nR ops j o.op with
  | false,some p=>p::sZ ops b i r (j+1)
  | _,_=>sZ ops b i r (j+1)
def eI (ops:Array Oper) (i:Nat):List Nat:=sZ ops (fo ops) i ops.toList 0
def jk:Op->Bool
 | .alloc _=>true
 | _=>false
def jL (ops:Array Oper) (b:List Nat) (i:Nat):List Oper->Nat->Bool
 | [],_=>true
 | o::r,j=>(j==i || ordered b i j || ordered b j i || blind o.op || jk o.op || (nR ops j o.op).isSome)&&jL ops b i r (j+1)
def aV (c:av) (ops:Array Oper) (i:Nat) (op:Op):Bool:=
 Ay c op&&jL ops (fo ops) i ops.toList 0&&(eI ops i).all fun p=>ops.toList.all fun o=>o.dst !=some p
def wy (c:av):Op->Bool
 | .call k=>match k.callee with
  | .value (.func f)=>(c.qg f).isSome
  | _=>false
 | _=>false
def fB (c:av) (ops:Array Oper) (i:Nat) (op:Op):Bool:=
 wy c op&&jL ops (fo ops) i ops.toList 0&&(eI ops i).all fun p=>(ops.toList.all fun o=>o.dst !=some p)&& !(mA op).contains p
def gD (c:av) (ops:Array Oper) (i:Nat) (op:Op):Bool:=aV c ops i op || fB c ops i op
def nT (n:Nat):AV->Bool
 | .ptr k _=>decide (k<n)
 | .cM k _ _ _=>decide (k<n)
 | .ax k _=>decide (k<n)
 | .gn k _ _ _=>decide (k<n)
 | .bT k=>decide (k<n)
 | .lE k=>decide (k<n)
 | _=>true
def rq (cf:aF):aF:=fun f args bs=>
 match f,bs with
 | .fn f, []=>match cf (.fn f) args [] with
  | some (v, [])=>some (v, [])
  | some (v,x::r)=>match v.hand 0 (x::r) with
   | some v'=>match v'.under 0 with
    | true=>some (v', [])
    | false=>some (v,x::r)
   | none=>none
  | none=>none
 | f,bs=>cf f args bs
def iJ:AV->Option Nat
 | .ptr k _=>some k
 | .cM k _ _ _=>some k
 | .ax k _=>some k
 | .gn k _ _ _=>some k
 | .bT k=>some k
 | .lE k=>some k
 | _=>none
def rA (c:av) (ops:Array Oper):List Oper->Nat->Bool
 | [],_=>false
 | o::r,i=>(!alone ops i&&gD c ops i o.op) || rA c ops r (i+1)
def rB (k:Nat) (v:AV):Bool:=iJ v !=some k
def wz (c:av) (ops:Array Oper):Bool:=rA c ops ops.toList 0
def hZ (op:Op):Option Nat:=
 match et op with
 | some p=>some p
 | none=>de op
def cg (c:av) (ops:Array Oper) (j:Nat) (op:Op) (t:Env):Bool:=
 match hZ op with
 | none=>true
 | some p=>match iq ops j p with
  | none=>true
  | some q=>(!wz c ops || iJ (t.get .any p)==iJ (t.get .any q))&&(!oV ops || nk (t.get .any p)==nk (t.get .any q))
def cx (cf:aF):Bool->aF
 | true=>cf
 | false=>rq cf
def az (c:av) (cf:aF) (ops:Array Oper) (base i:Nat) (o:Oper) (s:St):Option St:=
 match aW ops s.t o.guard with
 | some true=>match alone ops i with
  | true=>match bj c cf o.op s.t s.b (bB ops.toList i base) with
   | some (v,e)=>match e.on s.b (bB ops.toList i base) with
    | some bs'=>some {t:=aB s.t o.dst v,b:=bs'}
    | .none=> .none
   | .none=> .none
  | false=>match bj c (cx cf (aV c ops i o.op)) o.op s.t (bo ops base i s.b) (bB ops.toList i base) with
   | some (v,.none)=>match cg c ops i o.op s.t with
    | true=>some {t:=aB s.t o.dst v,b:=s.b}
    | false=> .none
   | some (v,.new x)=>match asks o.op,s.b[bB ops.toList i base]? with
    | true,some .dead=>some {t:=aB s.t o.dst v,b:=s.b.set (bB ops.toList i base) x}
    | _,_=> .none
   | some (v,.gQ k x)=>match bg ops i o.op&&rj o.op x&&cg c ops i o.op s.t&&(gS ops i).all fun p=>fA k (s.t.get .any p) with
    | true=>some {t:=aB s.t o.dst v,b:=s.b.set k x}
    | false=> .none
   | some (v,.app x)=>match aV c ops i o.op&&(eI ops i).all fun p=>nT s.b.length (s.t.get .any p) with
    | true=>some {t:=aB s.t o.dst v,b:=s.b++ [x]}
    | false=> .none
   | some (v,.qg k)=>match fB c ops i o.op&&(eI ops i).all fun p=>rB k (s.t.get .any p) with
    | true=>some {t:=aB s.t o.dst v,b:=s.b.set k .gone}
    | false=> .none
   | _=> .none
 | some false=>some {t:=aB s.t o.dst (.aL []),b:=s.b}
 | .none=> .none
def HU (c:av) (cf:aF) (ops:Array Oper) (base:Nat):List Oper->Nat->St->Option St
 | [],_,s=>some s
 | o::r,i,s=>match az c cf ops base i o s with
  | some s'=>HU c cf ops base r (i+1) s'
  | .none=> .none
def M8 (c:av) (fn:Func) (n:Nat) (r:Option (Ex×St)):Option (AV×List ad):=
 match r with
 | some (.normal,s') | some (.ret,s')=>match iI c s'.t s'.b fn.results.toList with
  | some vs=>handOver n s' (Ce vs)
  | none=>none
 | _=>none
def Cg (c:av) (ex:Code->St->Option (Ex×St)):aF:=fun f args bs=>
 match f with
 | .gm _ _ _=>none
 | .fn f=>match c.fn.get none f with
  | some fn=>match fn.body with
   | some a=>M8 c fn bs.length (ex a {t:=start fn.ntmps args,b:=bs})
   | none=>none
  | none=>none
def region (c:av) (cf:aF) (ops:Array Oper) (draw:Bool) (s:St):Option St:=
 match draw with
 | false=>ql c cf ops ops.toList s.b.length s.t (s.b++List.replicate (cU ops.toList) .dead)
 | true=>match sY ops with
  | true=>HU c cf ops s.b.length ops.toList 0 {s with b:=s.b++List.replicate (cU ops.toList) .dead}
  | false=>none
def Pp (r:Option (Ex×St)) (f:St->Option (Ex×St)):Option (Ex×St):=
 match r with
 | some (.normal,s)=>f s
 | r=>r
def QR (id:Nat) (r:Option (Ex×St)):Option (Ex×St):=
 match r with
 | some (.exit i,s)=>if i=id then some (.normal,s) else some (.exit i,s)
 | r=>r
def Vs (v:AV) (a b:Option (Ex×St)):Option (Ex×St):=
 match v with
 | .bool true=>a
 | .bool false=>b
 | _=>none
def exec (c:av):Nat->Code->St->Option (Ex×St)
 | 0,_,_=>none
 | n+1,code,s=>
  match code with
  | .skip=>some (.normal,s)
  | .label _=>some (.normal,s)
  | .ret=>some (.ret,s)
  | .exit id=>some (.exit id,s)
  | .seq a b=>Pp (exec c n a s) (exec c n b)
  | .cond x a b=>Vs (ev s.t x) (exec c n a s) (exec c n b s)
  | .block id a=>QR id (exec c n a s)
  | .loop a=>Pp (exec c n a s) fun s'=>exec c n (.loop a) (s'.cut s.b.length)
  | .region _ ops draw=>(region c (Cg c (exec c n)) ops draw s).map (Ex.normal,·)
  | _=>none
def call (c:av) (n:Nat):aF:=Cg c (exec c n)
end Go.Am
