/-
 The abstract machine: a fuelled evaluator of translated code over abstract values. Slices that came in are taken by value, the memory that a call makes for itself lies in numbered boxes, and no address, no tape and no capacity is seen. Definitions alone.
-/
import GoSem.Dispatch
import GoSem.Machine.Return
import Derived.Orders
set_option linter.all false
namespace Go.Am
inductive Ex where
 | normal | ret | exit (id:Nat)
structure Site where
 ps:Array Tmp
 asg:Code
 body:Code
 keep:List Nat
 nt:Nat
 deriving Inhabited
def posOf (keep:List Nat) (i:Nat):Option Nat:=
 match keep with
 | []=>none
 | j::r=>if i=j then some 0 else (posOf r i).map (· +1)
inductive AV where
 | any
 | jG
 | int (k:IntKind) (n:Int)
 | bool (b:Bool)
 | str (s:List UInt8)
 | agg (cs:List AV)
 | aI (vs:List AV)
 | bG
 | ptr (k off:Nat)
 | cj (k n i off:Nat)
 | cO (cs:List AV)
 | ak (nl:Option Bool) (sz:Nat) (es:List AV)
 | bW (nl:Option Bool)
 | az (k n:Nat)
 | fi (k n lo hi:Nat)
 | fn (f:FuncId) (first caps:List AV)
 | dP
 | fG (nn:Bool)
 | kE (t:TypeId) (k:IntKind) (n:Int)
 | fg (k:Nat) (s:Site) (env:List AV)
 | cu (k:Nat)
 | jZ (k:Nat)
 | gC
 deriving Inhabited
inductive Ls where
 | ready | busy
 | done (e:Ex)
structure Hd where
 out:Bool
 ty:Option TypeId
 link:Option (Nat×Nat×Nat×Nat)
 deriving Inhabited
inductive PR where
 | str (s:List UInt8) (pos:Nat)
 | map (m:Nat) (seen:List Nat) (clock:Nat)
 deriving Inhabited
inductive ad where
 | dead
 | var (ty:TypeId) (cs:List AV)
 | sl (sh:Hd) (sz:Nat) (es:List AV)
 | loop (st:Ls)
 | mp (es:List (AV×AV×Nat)) (clock:Nat)
 | gone
 | iter (o:PR)
 deriving Inhabited
inductive Tr (α:Type) where
 | lf
 | nd (v:α) (l r:Tr α)
def Tr.get {α:Type} (d:α):Tr α→Nat→α
 | .lf,_=>d
 | .nd v l r,i=>match i with
  | 0=>v
  | j+1=>match j%2 with
   | 0=>l.get d (j / 2)
   | _=>r.get d (j / 2)
def Tr.set {α:Type}:Tr α→Nat→α→Tr α
 | .lf,_,_=> .lf
 | .nd v l r,i,x=>match i with
  | 0=> .nd x l r
  | j+1=>match j%2 with
   | 0=> .nd v (l.set (j / 2) x) r
   | _=> .nd v l (r.set (j / 2) x)
def Tr.has {α:Type}:Tr α→Nat→Bool
 | .lf,_=>false
 | .nd _ l r,i=>match i with
  | 0=>true
  | j+1=>match j%2 with
   | 0=>l.has (j / 2)
   | _=>r.has (j / 2)
def Tr.mk {α:Type} (d:α):Nat→Nat→Tr α
 | 0,_=> .lf
 | k+1,n=>match n with
  | 0=> .lf
  | m+1=> .nd d (Tr.mk d k ((m+1) / 2)) (Tr.mk d k (m / 2))
def Tr.map {α β:Type} (f:α→β):Tr α→Tr β
 | .lf=> .lf
 | .nd v l r=> .nd (f v) (l.map f) (r.map f)
abbrev Env:=Tr AV
structure St where
 t:Env
 b:List ad
def AV.cells:AV→List AV
 | .agg cs=>cs
 | v=> [v]
def AV.bR:AV→Bool
 | .any | .agg _ | .aI _=>false
 | _=>true
def dW:List AV→Bool
 | []=>true
 | v::r=>v.bR&&dW r
mutual
def AV.plain:AV→Bool
 | .ptr _ _ | .cj _ _ _ _ | .az _ _ | .fi _ _ _ _ | .fg _ _ _ | .cu _ | .jZ _=>false
 | .agg cs=>aj cs
 | .aI cs=>aj cs
 | .fn _ a b=>aj a&&aj b
 | _=>true
def aj:List AV→Bool
 | []=>true
 | v::r=>v.plain&&aj r
end
mutual
def AV.flat:AV→Bool
 | .ptr _ _ | .cj _ _ _ _ | .az _ _ | .fi _ _ _ _ | .cO _ | .ak _ _ _ | .bW _ | .fg _ _ _ | .cu _ | .jZ _=>false
 | .agg cs=>flatAll cs
 | .aI cs=>flatAll cs
 | .fn _ a b=>flatAll a&&flatAll b
 | _=>true
def flatAll:List AV→Bool
 | []=>true
 | v::r=>v.flat&&flatAll r
end
def AV.Lt:AV→Nat
 | .int _ _=>1
 | .str _=>2
 | .bool _=>3
 | .ak _ _ _=>4
 | .bW _=>4
 | _=>0
def AV.differ:AV→AV→Bool
 | .int _ n,.int _ m=>decide (n≠m)
 | .str s,.str t=>decide (s≠t)
 | .bool a,.bool b=>a !=b
 | x,y=>decide (x.Lt≠0∧y.Lt≠0∧x.Lt≠y.Lt)
def dX:List AV→List AV→Bool
 | [],_=>true
 | _::_, []=>false
 | x::xs,y::ys=> !x.differ y&&dX xs ys
def jh (xs:List AV):List AV→Bool
 | []=>dX xs []
 | y::ys=>dX xs (y::ys) || jh xs ys
mutual
def AV.apart (ys:List AV):AV→Bool
 | .ptr _ _ | .cj _ _ _ _ | .az _ _ | .fi _ _ _ _ | .cO _ | .fn _ _ _ | .fg _ _ _ | .cu _ | .jZ _=>false
 | .ak _ _ es=>(es.isEmpty || !jh (es.flatMap AV.cells) ys)&&ee ys es
 | .agg cs=>ee ys cs
 | .aI cs=>ee ys cs
 | _=>true
def ee (ys:List AV):List AV→Bool
 | []=>true
 | v::r=>v.apart ys&&ee ys r
end
def iw:Value→AV
 | .int k n=> .int k n
 | .bool b=> .bool b
 | .string s=> .str s.data.toList
 | .pointer none=> .bG
 | .slice none 0 0=> .ak (some true) 0 []
 | .nilFunc=> .dP
 | .nilIface=> .fG false
 | .agg _=> .any
 | .tuple _=> .any
 | _=> .jG
def fq:Value→AV
 | .agg cs=> .agg (cs.toList.map iw)
 | .tuple vs=> .aI (vs.toList.map iw)
 | v=>iw v
def ev (t:Env):Operand→AV
 | .tmp i=>t.get .any i
 | .const v=>fq v
 | .func f=> .fn f [] []
 | .global _=> .any
structure TI where
 desc:TypeDesc
 size:Nat
 bytes:Nat
 zero:Option (List AV)
 agg:Bool
 eq:Bool
 fields:List (TypeId×Nat×Nat)
structure ax where
 ty:Tr (Option TI)
 fn:Tr (Option Func)
 ov:FuncId→Option (List AV→Option AV)
 BH:FuncId→Option (List AV→List ad→Option (AV×List ad))
 ext:FuncId→Option (List AV→Option AV)
 own:FuncId→Bool
 cut:Bool:=false
 il:FuncId→Bool:=fun _=>false
 Di:FuncId→Bool:=fun _=>false
def ax.ti (c:ax) (t:TypeId):Option TI:=c.ty.get none t
def ax.descOf (c:ax) (t:TypeId):Option TypeDesc:=(c.ti t).map (·.desc)
def gk (i:TI) (cs:List AV) (off:Nat):Option AV:=
 match i.agg with
 | true=>if off+i.size≤cs.length then some (.agg ((cs.drop off).take i.size)) else none
 | false=>cs[off]?
def j0 (op:BinOp) (k:IntKind) (a b:Int):Option AV:=
 match op with
 | .add=>some (.int k (k.wrap (a+b)))
 | .sub=>some (.int k (k.wrap (a-b)))
 | .mul=>some (.int k (k.wrap (a*b)))
 | .quo=>if b=0 then none else some (.int k (k.wrap (a.tdiv b)))
 | .rem=>if b=0 then none else some (.int k (a.tmod b))
 | .and=>some (.int k (k.wrap (BitVec.ofInt k.bits a&&&BitVec.ofInt k.bits b).toNat))
 | .or=>some (.int k (k.wrap (BitVec.ofInt k.bits a ||| BitVec.ofInt k.bits b).toNat))
 | .xor=>some (.int k (k.wrap (BitVec.ofInt k.bits a^^^BitVec.ofInt k.bits b).toNat))
 | .andNot=>some (.int k (k.wrap (BitVec.ofInt k.bits a&&& ~~~ BitVec.ofInt k.bits b).toNat))
 | .eql=>some (.bool (a==b))
 | .neq=>some (.bool (a !=b))
 | .lss=>some (.bool (decide (a<b)))
 | .leq=>some (.bool (decide (a≤b)))
 | .gtr=>some (.bool (decide (a>b)))
 | .geq=>some (.bool (decide (a≥b)))
 | _=>none
def kK (op:BinOp) (k:IntKind) (a b:Int):Option AV:=
 if b<0 then none else
 match op with
 | .shl=>some (.int k (k.wrap (a*2^min b.toNat k.bits)))
 | .shr=>some (.int k (a.fdiv (2^min b.toNat k.bits)))
 | _=>none
def tn:Nat:=4611686018427387904
def v8 (op:BinOp) (a b:List UInt8):Option AV:=
 match op with
 | .add=>if a.length+b.length≤tn then some (.str (a++b)) else none
 | .eql=>some (.bool (a==b))
 | .neq=>some (.bool (!(a==b)))
 | .lss=>some (.bool (Op.bytesLess a b))
 | .leq=>some (.bool (Op.bytesLess a b || a==b))
 | .gtr=>some (.bool (!(Op.bytesLess a b || a==b)))
 | .geq=>some (.bool (!Op.bytesLess a b))
 | _=>none
def kL (c:ax) (d:TypeDesc) (x y:AV):Option Bool:=
 match d with
 | .bool=>match x,y with
  | .bool a,.bool b=>some (a==b)
  | _,_=>none
 | .int _=>match x,y with
  | .int k a,.int k' b=>if k=k' then some (a==b) else none
  | _,_=>none
 | .string=>match x,y with
  | .str a,.str b=>some (a==b)
  | _,_=>none
 | .pointer e=>match x,y with
  | .bG,.bG=>some true
  | .bG,.ptr _ _ | .ptr _ _,.bG | .bG,.cO _ | .cO _,.bG=>some false
  | .ptr k a,.ptr l b=>match c.ti e with
   | some j=>if j.size≠0 then some (k==l&&a==b) else none
   | none=>none
  | _,_=>none
 | .slice _=>match x,y with
  | .ak (some n) _ _,.ak (some true) 0 []=>some n
  | .ak _ _ (_::_),.ak (some true) 0 []=>some false
  | .bW (some n),.ak (some true) 0 []=>some n
  | _,_=>none
 | .func _ _ _=>match x,y with
  | .dP,.dP=>some true
  | .fn _ _ _,.dP | .dP,.fn _ _ _=>some false
  | _,_=>none
 | _=>none
def both:Option Bool→Option Bool→Option Bool
 | some a,some b=>some (a&&b)
 | _,_=>none
def eqFields (part:TypeId→List AV→Nat→Option AV) (eq:TypeId→AV→AV→Option Bool) (xs ys:List AV):List (TypeId×Nat×Nat)→Option Bool
 | []=>some true
 | (t,off,_)::r=>match part t xs off,part t ys off with
  | some a,some b=>both (eq t a b) (eqFields part eq xs ys r)
  | _,_=>none
def eqItems (part:TypeId→List AV→Nat→Option AV) (eq:TypeId→AV→AV→Option Bool) (e:TypeId) (n:Nat) (xs ys:List AV):List Nat→Option Bool
 | []=>some true
 | i::r=>match part e xs (i*n),part e ys (i*n) with
  | some a,some b=>both (eq e a b) (eqItems part eq e n xs ys r)
  | _,_=>none
def iy (c:ax) (t:TypeId) (cs:List AV) (off:Nat):Option AV:=
 match c.ti t with
 | some i=>gk i cs off
 | none=>none
def bB (c:ax):Nat→TypeId→AV→AV→Option Bool
 | 0,_,_,_=>none
 | d+1,t,x,y=>match c.ti t with
  | none=>none
  | some i=>match x,y with
   | .agg xs,.agg ys=>match i.eq with
    | true=>match i.desc with
     | .struct _=>eqFields (iy c) (bB c d) xs ys i.fields
     | .array n e=>match c.ti e with
      | some j=>eqItems (iy c) (bB c d) e j.size xs ys (List.range n)
      | none=>none
     | _=>none
    | false=>none
   | x,y=>kL c i.desc x y
def ja (c:ax) (t:TypeId) (op:BinOp) (x y:AV):Option AV:=
 match x,y with
 | .int k a,.int k' b=>match op with
  | .shl=>kK .shl k a b
  | .shr=>kK .shr k a b
  | op=>if k=k' then j0 op k a b else none
 | .str a,.str b=>v8 op a b
 | x,y=>match op with
  | .eql=>(bB c 20 t x y).map .bool
  | .neq=>(bB c 20 t x y).map fun b=> .bool (!b)
  | _=>none
def Ec:Operand→Bool
 | .const .nilIface=>true
 | _=>false
def xE (c:ax) (t:TypeId) (op:BinOp) (x:AV):Option AV:=
 match c.ti t with
 | some i=>match i.desc with
  | .interface _=>match op,x with
   | .eql,.fG b=>some (.bool (!b))
   | .neq,.fG b=>some (.bool b)
   | .eql,.kE _ _ _=>some (.bool false)
   | .neq,.kE _ _ _=>some (.bool true)
   | _,_=>none
  | _=>none
 | none=>none
def Ed (c:ax) (t:TypeId) (op:BinOp) (q:Operand) (x y:AV):Option AV:=
 match Ec q with
 | true=>xE c t op x
 | false=>ja c t op x y
def H6 (op:UnOp) (x:AV):Option AV:=
 match op,x with
 | .neg,.int k n=>j0 .sub k 0 n
 | .xor,.int k n=>j0 .xor k (if k.signed then -1 else k.max) n
 | .not,.bool b=>some (.bool (!b))
 | _,_=>none
def byteOf:AV→Option UInt8
 | .int .u8 n=>some (UInt8.ofNat n.toNat)
 | _=>none
def bytesOf:List AV→Option (List UInt8)
 | []=>some []
 | v::r=>match byteOf v,bytesOf r with
  | some c,some l=>some (c::l)
  | _,_=>none
def ah (c:UInt8):AV:= .int .u8 c.toNat
inductive cJ where
 | none
 | new (b:ad)
 | gL (k:Nat) (b:ad)
 | move (k:Nat) (b:ad)
 | app (b:ad)
 | all (bs:List ad)
abbrev Out:=Option (AV×cJ)
def lN:Nat:=16777216
def bE:Nat:=70368744177664
def ad.at (bs:List ad) (k:Nat):ad:=bs.getD k .dead
def elems (bs:List ad):AV→Option (Nat×List AV)
 | .ak _ sz es=>some (sz,es)
 | .bW _=>some (0, [])
 | .az k n=>match ad.at bs k with
  | .sl _ sz es=>if n=es.length then some (sz,es) else none
  | _=>none
 | .fi k n lo hi=>match ad.at bs k with
  | .sl _ sz es=>if n=es.length∧lo≤hi∧hi≤n then some (sz,(es.take hi).drop lo) else none
  | _=>none
 | _=>none
def cE (x:Option AV) (d lim:Nat):Option Nat:=
 match x with
 | .none=>some d
 | some (.int _ i)=>if 0≤i∧i≤(lim:Int) then some i.toNat else .none
 | _=> .none
def qz (agg:Bool) (n:Nat) (cs:List AV):Option AV:=
 if cs.length=n∧aj cs=true∧dW cs=true then match agg with
  | true=>some (.agg cs)
  | false=>match cs with
   | [v]=>match v with
    | .agg _=> .none
    | v=>some v
   | _=> .none
 else .none
def af (cs:List AV) (off:Nat) (v:List AV):List AV:=cs.take off++v++cs.drop (off+v.length)
def rC (place:Nat→Option (Nat×Nat)) (cs:List AV):List (Nat×AV)→Option (List AV)
 | []=>some cs
 | (i,v)::rest=>match place i with
  | .none=> .none
  | some (off,size)=>if v.cells.length=size∧off+size≤cs.length∧dW v.cells=true then rC place (af cs off v.cells) rest else .none
def j4 (es:List AV) (sz:Nat):List (Nat×AV)→Option (List AV)
 | []=>some es
 | (i,v)::rest=>if i<es.length∧v.cells.length=sz∧v.plain=true∧dW v.cells=true then j4 (es.set i v) sz rest else .none
def lA (t:Env) (xs:List Operand):List AV:=xs.map (ev t)
def source (bs:List ad):AV→Option (List AV)
 | .str s=>some (s.map ah)
 | x=>(elems bs x).map (·.2)
def Ee:AV→List AV→Option AV
 | x, []=>some x
 | .int k a,.int k' b::rest=>if k=k' then Ee (.int k (if b<a then b else a)) rest else .none
 | _,_=> .none
def Ef:AV→List AV→Option AV
 | x, []=>some x
 | .int k a,.int k' b::rest=>if k=k' then Ef (.int k (if b>a then b else a)) rest else .none
 | _,_=> .none
def oc (d:TypeDesc) (x:AV) (bs:List ad):Out:=
 match d with
 | .string=>match x with
  | .str s=>some (.int .i64 s.length,.none)
  | _=> .none
 | .slice _=>match elems bs x with
  | some (_,es)=>some (.int .i64 es.length,.none)
  | .none=> .none
 | .array n _=>some (.int .i64 n,.none)
 | _=> .none
def lO (i:TI):Bool:=
 match i.zero with
 | some z=>z.length==i.size
 | .none=>false
def ef (i:TI) (el:TypeId) (bs:List ad) (s:AV) (xs:List AV) (id:Nat):Out:=
 match s with
 | .ak (some true) z []=>match xs with
  | []=>some (.ak (some true) z [],.none)
  | xs=>if xs.length*(i.bytes+1)≤bE∧lO i=true then some (.az id xs.length,.new (.sl ⟨false,some el,none⟩ i.size xs)) else .none
 | .bW nl=>match xs with
  | []=>some (.bW nl,.none)
  | xs=>if xs.length*(i.bytes+1)≤bE∧lO i=true then some (.az id xs.length,.new (.sl ⟨false,some el,none⟩ i.size xs)) else .none
 | .az k n=>match ad.at bs k with
  | .sl sh sz es=>if n=es.length∧sz=i.size∧sh.ty=some el∧(n+xs.length)*(i.bytes+1)≤bE∧lO i=true then some (.az k (n+xs.length),.gL k (.sl ⟨sh.out,sh.ty,none⟩ sz (es++xs))) else .none
  | _=> .none
 | .fi k n lo hi=>match ad.at bs k with
  | .sl sh sz es=>if n=es.length∧lo=0∧hi≤n∧xs≠ []∧sz=i.size∧sh.out=false∧sh.ty=some el∧(hi+xs.length)*(i.bytes+1)≤bE∧lO i=true then some (.az id (hi+xs.length),.move k (.sl ⟨sh.out,sh.ty,none⟩ sz (es.take hi++xs))) else .none
  | _=> .none
 | _=> .none
def fZ (c:ax) (bs:List ad) (st xt:TypeId) (s x:AV) (id:Nat):Out:=
 match c.ti st,c.ti xt with
 | some i,some j=>match i.desc with
  | .slice e=>match c.ti e with
   | some k=>match j.desc with
    | .slice _=>match elems bs x with
     | some (sz,xs)=>if sz=k.size∨xs= [] then ef k e bs s xs id else .none
     | .none=> .none
    | .string=>match x with
     | .str l=>if k.size=1 then ef k e bs s (l.map ah) id else .none
     | _=> .none
    | _=> .none
   | .none=> .none
  | _=> .none
 | _,_=> .none
def partOf:AV→Option (Nat×Nat×Nat×Nat)
 | .az k n=>some (k,n,0,n)
 | .fi k n lo hi=>some (k,n,lo,hi)
 | _=>none
def xF (i:TI) (el:TypeId) (bs:List ad) (d:AV) (xs:List AV):Out:=
 match partOf d with
 | some (k,n,lo,hi)=>match ad.at bs k with
  | .sl sh sz es=>if n=es.length∧lo≤hi∧hi≤n∧sz=i.size∧sh.out=false∧sh.ty=some el then (if lo=hi then some (.int .i64 0,.none) else some (.int .i64 (xs.take (hi-lo)).length,.gL k (.sl ⟨sh.out,sh.ty,none⟩ sz (af es lo (xs.take (hi-lo)))))) else .none
  | _=> .none
 | .none=>match d with
  | .bW _=>some (.int .i64 0,.none)
  | _=> .none
def tq (c:ax) (bs:List ad) (st:TypeId) (d x:AV):Out:=
 match c.ti st with
 | some i=>match i.desc with
  | .slice e=>match c.ti e with
   | some k=>match elems bs x with
    | some (sz,xs)=>if sz=k.size∨xs= [] then xF k e bs d xs else .none
    | .none=> .none
   | .none=> .none
  | _=> .none
 | .none=> .none
def y5 (x:AV) (bs:List ad):Out:=
 match x with
 | .ak (some true) 0 []=>some (.bG,.none)
 | .az k n=>match ad.at bs k with
  | .sl _ _ es=>if n=es.length then some (.cj k n 0 0,.none) else .none
  | _=> .none
 | _=> .none
def jH:List AV→Option (List UInt8)
 | []=>some []
 | .int .u8 n::r=>if 0≤n∧n<256 then (jH r).map (UInt8.ofNat n.toNat:: ·) else none
 | _::_=>none
def y6 (c:ax) (u:TypeId) (x n:AV) (bs:List ad):Out:=
 match x,n with
 | .bG,.int .i64 0=>some (.str [],.none)
 | .cj k m 0 0,.int .i64 n=>match ad.at bs k,c.ti u with
  | .sl sh sz es,some j=>if m=es.length∧n=(m:Int)∧sh.ty=some u∧sz=1∧j.size=1∧m≤bE then (jH es).map fun s=>(.str s,.gL k (.sl ⟨sh.out,.none,none⟩ sz es)) else .none
  | _,_=> .none
 | _,_=> .none
def dQ (c:ax) (b:Builtin) (argTypes:List TypeId) (args:List AV) (bs:List ad) (id:Nat):Out:=
 match b with
 | .len=>match argTypes,args with
  | [t], [x]=>match c.ti t with
   | some i=>oc i.desc x bs
   | .none=> .none
  | _,_=> .none
 | .append=>match argTypes,args with
  | [st,xt], [s,x]=>fZ c bs st xt s x id
  | _,_=> .none
 | .min=>match args with
  | x::rest=>(Ee x rest).map (·,.none)
  | _=> .none
 | .max=>match args with
  | x::rest=>(Ef x rest).map (·,.none)
  | _=> .none
 | .unsafeSliceData=>match args with
  | [x]=>y5 x bs
  | _=> .none
 | .unsafeString=>match argTypes,args with
  | [t,_], [x,n]=>match c.descOf t with
   | some (.pointer u)=>y6 c u x n bs
   | _=> .none
  | _,_=> .none
 | .copy=>match argTypes,args with
  | [st,_], [d,x]=>tq c bs st d x
  | _,_=> .none
 | _=> .none
def tr (c a b:AV):Out:=
 match c with
 | .bool true=>some (a,.none)
 | .bool false=>some (b,.none)
 | _=> .none
def tu (i:Option TI) (e:TypeId) (id:Nat):Out:=
 match i with
 | some i=>match i.zero with
  | some z=>some (.ptr id 0,.new (.var e z))
  | .none=> .none
 | .none=> .none
def F2 (e:TypeId) (cs:List AV) (id:Nat):Out:=
 match dW cs with
 | true=>some (.ptr id 0,.new (.var e cs))
 | false=> .none
def xG (fs:List (TypeId×Nat×Nat)) (i:Nat):Option (Nat×Nat):=(fs[i]?).map (·.2)
def xH (n i:Nat):Option (Nat×Nat):=some (i*n,n)
def qA (c:ax) (i:Option TI) (parts:List (Nat×AV)):Out:=
 match i with
 | some i=>match i.zero with
  | some z=>match i.desc with
   | .struct _=>(rC (xG i.fields) z parts).map fun cs=>(.agg cs,.none)
   | .array _ e=>match c.ti e with
    | some j=>(rC (xH j.size) z parts).map fun cs=>(.agg cs,.none)
    | .none=> .none
   | _=> .none
  | .none=> .none
 | .none=> .none
mutual
def eh (bs:List ad):AV→Option AV
 | .az k n=>match ad.at bs k with
  | .sl _ sz es=>if n=es.length then some (.ak .none sz es) else .none
  | _=> .none
 | .fi k n lo hi=>match ad.at bs k with
  | .sl _ sz es=>if n=es.length∧lo≤hi∧hi≤n then some (.ak .none sz ((es.take hi).drop lo)) else .none
  | _=> .none
 | .agg cs=>match aj cs with
  | true=>some (.agg cs)
  | false=>(cV bs cs).map .agg
 | v=>some v
def cV (bs:List ad):List AV→Option (List AV)
 | []=>some []
 | v::r=>match eh bs v,cV bs r with
  | some a,some l=>some (a::l)
  | _,_=> .none
end
mutual
def AV.leaves:AV→List AV
 | .agg cs=>match aj cs with
  | true=> []
  | false=>aM cs
 | v=> [v]
def aM:List AV→List AV
 | []=> []
 | v::r=>v.leaves++aM r
end
def aH (bs:List ad):List AV→List ad
 | []=>bs
 | .az k _::r=>aH (match ad.at bs k with | .sl sh sz es=>bs.set k (.sl ⟨true,sh.ty,none⟩ sz es) | _=>bs) r
 | .fi k _ _ _::r=>aH (match ad.at bs k with | .sl sh sz es=>bs.set k (.sl ⟨true,sh.ty,none⟩ sz es) | _=>bs) r
 | _::r=>aH bs r
def kM:List AV→Bool
 | []=>false
 | .az _ _::_=>true
 | .fi _ _ _ _::_=>true
 | _::r=>kM r
def gl (c:ax) (i:Option TI) (len:Nat) (parts:List (Nat×AV)) (id:Nat):Out:=
 match i with
 | some i=>match i.desc with
  | .slice e=>match c.ti e with
   | some j=>match j.zero with
    | some z=>if len=0 then (match parts with | []=>some (.bW (some false),.none) | _::_=> .none) else if len*j.size≤lN then match qz j.agg j.size z with
      | some ze=>(j4 (List.replicate len ze) j.size parts).map fun es=>(.az id len,.new (.sl ⟨false,some e,none⟩ j.size es))
      | .none=> .none
     else .none
    | .none=> .none
   | .none=> .none
  | _=> .none
 | .none=> .none
def AV.cX:AV→AV
 | .bW nl=> .ak nl 0 []
 | v=>v
def AV.soft:AV→AV
 | .agg cs=> .agg (cs.map AV.cX)
 | v=>v.cX
def fr (c:ax) (i:Option TI) (len:Nat) (parts:List (Nat×AV)) (id:Nat) (bs:List ad):Out:=
 match aj (parts.map (·.2)) with
 | true=>gl c i len parts id
 | false=>match cV bs (parts.map (·.2)),bs[id]? with
  | some l,some .dead=>match aj l,gl c i len ((parts.map (·.1)).zip l) id with
   | true,some (v,.new b)=>some (v,.all ((aH bs (aM (parts.map (·.2)))).set id b))
   | _,_=> .none
  | _,_=> .none
def ei (c:ax) (i:Option TI) (len:Nat) (parts:List (Nat×AV)) (id:Nat) (bs:List ad):Out:=
 fr c i len (parts.map fun p=>(p.1,p.2.soft)) id bs
def linked (sh:Hd) (j:Nat) (i:TI) (cs:List AV):List AV:=
 match sh.link with
 | some (i',j',k',n)=>match i.agg with
  | false=>if i'=j then cs.set j' (.az k' n) else cs
  | true=>cs
 | none=>cs
def lP (i:Option TI) (a:AV) (bs:List ad):Out:=
 match i with
 | some i=>match a with
  | .ptr k off=>match ad.at bs k with
   | .var _ cs=>(gk i cs off).map (·,.none)
   | _=> .none
  | .cj k n j off=>match ad.at bs k with
   | .sl sh _ es=>if n=es.length then match es[j]? with
     | some e=>(gk i (linked sh j i e.cells) off).map (·,.none)
     | .none=> .none
    else .none
   | _=> .none
  | .cO cs=>(gk i cs 0).map (·,.none)
  | _=> .none
 | .none=> .none
def cA (e:AV) (off:Nat) (v:List AV):Option AV:=
 match e with
 | .agg cs=>if off+v.length≤cs.length∧aj v=true then some (.agg (af cs off v)) else .none
 | _=>match off,v with
  | 0, [c]=>if c.plain=true then (match c with | .agg _=> .none | c=>some c) else .none
  | _,_=> .none
def F3:List AV→Option (Nat×Nat)
 | [.az k m]=>some (k,m)
 | _=>none
def gW (bs:List ad) (k k' m j off:Nat) (sh:Hd) (sz:Nat) (es:List AV) (e:AV):Out:=
 match eh bs (.az k' m),decide (k'=k) with
 | some l,false=>(cA e off [l]).map fun e'=>(.aI [],.all ((aH bs [.az k' m]).set k (.sl ⟨sh.out,sh.ty,some (j,off,k',m)⟩ sz (es.set j e'))))
 | _,_=> .none
theorem jI {bs:List ad} {k k' m j off:Nat} {sh:Hd} {sz:Nat} {es:List AV} {x r:AV} {e:cJ} (h:gW bs k k' m j off sh sz es x=some (r,e)): ∃b,e= .all b:=by
 unfold gW at h;split at h
 ·rename_i l _ _;cases hst:cA x off [l] with
  | none=>rw [hst] at h;cases h
  | some y=>rw [hst] at h;cases h;exact ⟨_,rfl⟩
 ·cases h
def lQ (i:Option TI) (a:AV) (v:List AV) (bs:List ad):Out:=
 match i with
 | some i=>if v.length=i.size∧dW v=true then match a with
   | .ptr k off=>match ad.at bs k with
    | .var ty cs=>if off+v.length≤cs.length then some (.aI [],.gL k (.var ty (af cs off v))) else .none
    | _=> .none
   | .cj k n j off=>match ad.at bs k with
    | .sl sh sz es=>if n=es.length∧sh.out=false∧sh.ty.isSome=true then match es[j]? with
      | some e=>match F3 v with
       | some (k',m)=>gW bs k k' m j off sh sz es e
       | .none=>(cA e off v).map fun e'=>(.aI [],.gL k (.sl ⟨sh.out,sh.ty,none⟩ sz (es.set j e')))
      | .none=> .none
     else .none
    | _=> .none
   | _=> .none
  else .none
 | .none=> .none
def fM:AV→Bool
 | .int _ _ | .bool _ | .str _=>true
 | _=>false
def gj:AV→Bool
 | .agg cs=>cs.all fM
 | v=>fM v
def iu:AV→AV→Bool
 | .int k a,.int k' b=>decide (k=k')&&a==b
 | .bool a,.bool b=>a==b
 | .str a,.str b=>a==b
 | _,_=>false
def j5:List AV→List AV→Bool
 | [], []=>true
 | a::r,b::s=>iu a b&&j5 r s
 | _,_=>false
def sameKey:AV→AV→Bool
 | .agg a,.agg b=>j5 a b
 | a,b=>iu a b
def gX (part:TypeId→List AV→Nat→Option AV) (fine:TypeId→AV→Bool) (cs:List AV):List (TypeId×Nat×Nat)→Bool
 | []=>true
 | (t,off,_)::r=>match part t cs off with
  | some a=>fine t a&&gX part fine cs r
  | none=>false
def o6 (part:TypeId→List AV→Nat→Option AV) (fine:TypeId→AV→Bool) (e:TypeId) (n:Nat) (cs:List AV):List Nat→Bool
 | []=>true
 | i::r=>match part e cs (i*n) with
  | some a=>fine e a&&o6 part fine e n cs r
  | none=>false
def cz (c:ax):Nat→TypeId→AV→Bool
 | 0,_,_=>false
 | d+1,t,x=>match c.ti t with
  | some i=>match i.desc with
   | .struct _=>match x with
    | .agg cs=>gX (iy c) (cz c d) cs i.fields
    | _=>false
   | .array n e=>match x,c.ti e with
    | .agg cs,some j=>o6 (iy c) (cz c d) e j.size cs (List.range n)
    | _,_=>false
   | .interface _=>false
   | _=>true
  | none=>false
def je (eq:AV→AV→Option Bool) (k:AV):List (AV×AV×Nat)→Nat→Option (Option (Nat×AV×AV×Nat))
 | [],_=>some none
 | e::r,i=>match eq k e.1 with
  | some true=>some (some (i,e))
  | some false=>je eq k r (i+1)
  | none=>none
def o5 (i:TI):Option AV:=
 match i.zero with
 | some z=>match i.agg with
  | true=>some (.agg z)
  | false=>match z with
   | [x]=>some x
   | _=>none
 | none=>none
def fm (x:AV) (bs:List ad):Option (List (AV×AV×Nat)):=
 match x with
 | .gC=>some []
 | .cu k=>match ad.at bs k with
  | .mp es _=>some es
  | _=>none
 | _=>none
def qw (ok:Bool) (v:AV) (b:Bool):AV:=
 match ok with
 | true=> .aI [v,.bool b]
 | false=>v
def dB (c:ax) (i:Option TI) (x k:AV) (ok:Bool) (bs:List ad):Out:=
 match i with
 | some i=>match i.desc with
  | .map kt el=>match fm x bs with
   | some es=>match cz c 8 kt k with
    | true=>match je (bB c 20 kt) k es 0 with
     | some (some (_,e))=>some (qw ok e.2.1 true,.none)
     | some .none=>match c.ti el with
      | some j=>(o5 j).map fun z=>(qw ok z false,.none)
      | .none=> .none
     | .none=> .none
    | false=> .none
   | .none=> .none
  | _=> .none
 | .none=> .none
def gM:AV→Bool
 | .az _ _=>true
 | .any=>true
 | x=>x.plain
def aO (c:ax) (i:Option TI) (m k x:AV) (bs:List ad):Out:=
 match i with
 | some i=>match i.desc with
  | .map kt _=>match m with
   | .cu b=>match ad.at bs b with
    | .mp es clock=>match cz c 8 kt k&&gj k&&gM x with
     | true=>match je (bB c 20 kt) k es 0 with
      | some (some (j,e))=>match sameKey e.1 k with
       | true=>some (.aI [],.gL b (.mp (es.set j (k,x,e.2.2)) clock))
       | false=> .none
      | some .none=>some (.aI [],.gL b (.mp (es++ [(k,x,clock)]) (clock+1)))
      | .none=> .none
     | false=> .none
    | _=> .none
   | _=> .none
  | _=> .none
 | .none=> .none
def gY (c:ax) (i:Option TI) (m k:AV) (bs:List ad):Out:=
 match i with
 | some i=>match i.desc with
  | .map kt el=>match m with
   | .cu b=>match ad.at bs b with
    | .mp es clock=>match cz c 8 kt k&&gj k with
     | true=>match je (bB c 20 kt) k es 0 with
      | some (some (_,e))=>match sameKey e.1 k with
       | true=>some (.aI [e.2.1,.int .i64 e.2.2],.gL b (.mp es clock))
       | false=> .none
      | some .none=>match c.ti el with
       | some j=>match o5 j with
        | some z=>match z.plain with
         | true=>some (.aI [z,.int .i64 clock],.gL b (.mp (es++ [(k,z,clock)]) (clock+1)))
         | false=> .none
        | .none=> .none
       | .none=> .none
      | .none=> .none
     | false=> .none
    | _=> .none
   | _=> .none
  | _=> .none
 | .none=> .none
def rD (n:Int):List (AV×AV×Nat)→Nat→Option (Nat×AV×AV×Nat)
 | [],_=>none
 | e::r,i=>if (e.2.2:Int)=n then some (i,e) else rD n r (i+1)
def eZ (m s x:AV) (bs:List ad):Out:=
 match m,s with
 | .cu b,.int _ n=>match ad.at bs b with
  | .mp es clock=>match gM x with
   | true=>match rD n es 0 with
    | some (j,e)=>some (.aI [],.gL b (.mp (es.set j (e.1,x,e.2.2)) clock))
    | .none=> .none
   | false=> .none
  | _=> .none
 | _,_=> .none
def lR (x:AV) (bs:List ad):Out:=
 match x with
 | .jZ k=>match ad.at bs k with
  | .iter (.map m seen clock)=>match seen.getLast?,ad.at bs m with
   | some n,.mp es clock'=>if clock'=clock then (match rD n es 0 with
     | some (_,e)=>some (.aI [e.1,e.2.1],.none)
     | .none=> .none) else .none
   | _,_=> .none
  | _=> .none
 | _=> .none
def jY (r:Option AV) (i:Option TI) (id:Nat):Out:=
 match i with
 | some i=>match i.desc with
  | .map _ _=>match r with
   | .none=>some (.cu id,.new (.mp [] 0))
   | some (.int _ _)=>some (.cu id,.new (.mp [] 0))
   | _=> .none
  | _=> .none
 | .none=> .none
def kN (i:Option TI) (x:AV) (bs:List ad) (id:Nat):Out:=
 match i with
 | some i=>match i.desc,x with
  | .string,.str s=>some (.jZ id,.new (.iter (.str s 0)))
  | .map _ _,.cu m=>match ad.at bs m with
   | .mp _ clock=>match decide (m<id) with
    | true=>some (.jZ id,.new (.iter (.map m [] clock)))
    | false=> .none
   | _=> .none
  | _,_=> .none
 | .none=> .none
def kO (s:List UInt8) (pos:Nat):Nat×Nat:=Utf8.decode ⟨s.toArray⟩ pos
def tv (x:AV) (str:Bool) (bs:List ad):Out:=
 match x,str with
 | .jZ k,true=>match ad.at bs k with
  | .iter (.str s pos)=>match decide (pos<s.length) with
   | true=>some (.aI [.bool true,.int .i64 pos,.int .i32 (kO s pos).1],.gL k (.iter (.str s (pos+(kO s pos).2))))
   | false=>some (.aI [.bool false],.gL k (.iter (.str s pos)))
  | _=> .none
 | _,_=> .none
def fN (x:AV):Out:=
 match x with
 | .ptr k off=>some (.ptr k off,.none)
 | .cO cs=>some (.cO cs,.none)
 | .fn f a b=>some (.fn f a b,.none)
 | _=> .none
def tw (c:ax) (t:TypeId) (x:AV):Out:=
 match c.ti t with
 | some i=>match i.desc,x with
  | .int _,.int k n=>some (.kE t k n,.none)
  | _,_=> .none
 | .none=> .none
def dq (c:ax) (src dst:Option TI) (x:AV) (bs:List ad) (id:Nat):Out:=
 match src,dst with
 | some s,some d=>match d.desc,x with
  | .unsafePointer,.ptr k off=>match s.desc,ad.at bs k with
   | .pointer t,.var _ cs=>match c.ti t with
    | some j=>if j.size≠0∧off<cs.length then some (.ptr k off,.none) else .none
    | .none=> .none
   | _,_=> .none
  | .pointer u,.ptr k 0=>match s.desc,ad.at bs k with
   | .unsafePointer,.var ty cs=>match c.ti u with
    | some j=>if ty=u∧j.size=cs.length∧j.size≠0 then some (.ptr k 0,.none) else .none
    | .none=> .none
   | _,_=> .none
  | .int k,.int _ n=>some (.int k (k.wrap n),.none)
  | .string,.str s=>some (.str s,.none)
  | .string,.int _ n=>some (.str (Utf8.encode n).data.toList,.none)
  | .slice e,.str l=>match s.desc,c.descOf e with
   | .string,some (.int .u8)=>if l= [] then some (.ak (some false) 1 [],.none) else if l.length≤bE then some (.az id l.length,.new (.sl ⟨false,some e,none⟩ 1 (l.map ah))) else .none
   | _,_=> .none
  | .string,x=>match s.desc with
   | .slice e=>match c.descOf e,elems bs x with
    | some (.int .u8),some (_,es)=>(bytesOf es).map fun s=>(.str s,.none)
    | _,_=> .none
   | _=> .none
  | _,_=> .none
 | _,_=> .none
def iz (c:ax) (i:Option TI) (l m:AV) (id:Nat):Out:=
 match i,l,m with
 | some i,.int _ l,.int _ m=>match i.desc with
  | .slice e=>match c.ti e with
   | some j=>match j.zero with
    | some z=>if 0≤l∧l≤m∧m*(j.bytes+1)≤(bE:Int) then match qz j.agg j.size z with
      | some ze=>if m=0 then some (.bW (some false),.none) else some (.az id l.toNat,.new (.sl ⟨false,some e,none⟩ j.size (List.replicate l.toNat ze)))
      | .none=> .none
     else .none
    | .none=> .none
   | .none=> .none
  | _=> .none
 | _,_,_=> .none
def qB (i:Option TI) (sz:Nat) (es:List AV):Bool:=
 match i with
 | some i=>sz==i.size || es.isEmpty
 | .none=>false
def db (c:ax) (d:TypeDesc) (x:AV) (lo hi:Option AV) (bs:List ad):Out:=
 match d,x with
 | .string,.str s=>match cE hi s.length s.length with
  | some h=>(cE lo 0 h).map fun l=>(.str ((s.take h).drop l),.none)
  | .none=> .none
 | .slice el,.ak nl sz es=>match qB (c.ti el) sz es with
  | true=>match cE hi es.length es.length with
   | some h=>(cE lo 0 h).map fun l=>(.ak nl sz ((es.take h).drop l),.none)
   | .none=> .none
  | false=> .none
 | .slice el,.az k n=>match ad.at bs k with
  | .sl sh sz es=>if n=es.length∧qB (c.ti el) sz es=true then match cE hi es.length es.length with
    | some h=>(cE lo 0 h).map fun l=>match c.cut with
     | true=>if l=0∧h=n then (.az k n,.none) else (.fi k n l h,.none)
     | false=>(.ak .none sz ((es.take h).drop l),match sh.out,sh.link with | true,.none=> .none | _,_=> .gL k (.sl ⟨true,sh.ty,none⟩ sz es))
    | .none=> .none
   else .none
  | _=> .none
 | .slice el,.fi k n a z=>match ad.at bs k with
  | .sl _ sz es=>if n=es.length∧a≤z∧z≤n∧qB (c.ti el) sz es=true then match cE hi (z-a) (z-a) with
    | some h=>(cE lo 0 h).map fun l=>(.fi k n (a+l) (a+h),.none)
    | .none=> .none
   else .none
  | _=> .none
 | _,_=> .none
def isZero:Option AV→Bool
 | some (.int _ n)=>n==0
 | .none=>false
 | _=>false
def ji (c:ax) (d:TypeDesc) (x:AV) (lo hi mx:Option AV) (bs:List ad):Out:=
 match d with
 | .slice el=>match elems bs x,c.ti el with
  | some _,some _=>if (lo.isNone || isZero lo)&&isZero hi&&isZero mx then some (.bW none,.none) else .none
  | _,_=> .none
 | _=> .none
def rE (x:AV) (o:Nat) (bs:List ad):Out:=
 match x with
 | .ptr k off=>some (.ptr k (off+o),.none)
 | .cj k n i off=>match ad.at bs k with
  | .sl _ _ es=>if n=es.length∧i<n then some (.cj k n i (off+o),.none) else .none
  | _=> .none
 | .cO cs=>some (.cO (cs.drop o),.none)
 | _=> .none
def dE (i:Option TI) (x:AV) (f:Nat) (bs:List ad):Out:=
 match i with
 | some i=>match i.desc with
  | .struct _=>match i.fields[f]? with
   | some (_,o,n)=>match n with
    | 0=> .none
    | _+1=>rE x o bs
   | .none=> .none
  | _=> .none
 | .none=> .none
def od (c:ax) (i:Option TI) (x:AV) (f:Nat):Out:=
 match i,x with
 | some i,.agg cs=>match i.desc with
  | .struct _=>match i.fields[f]? with
   | some (ty,o,_)=>(iy c ty cs o).map (·,.none)
   | .none=> .none
  | _=> .none
 | _,_=> .none
def dF (c:ax) (i:Option TI) (x:AV) (ix:AV) (bs:List ad):Out:=
 match i,ix with
 | some i,.int _ n=>match i.desc with
  | .array len e=>if 0≤n∧n<(len:Int) then match c.ti e with
    | some j=>rE x (n.toNat*j.size) bs
    | .none=> .none
   else .none
  | .slice e=>match c.ti e with
   | some j=>match x with
    | .ak _ sz es=>if 0≤n∧sz=j.size then match es[n.toNat]? with
      | some v=>some (.cO v.cells,.none)
      | .none=> .none
     else .none
    | .az k m=>match ad.at bs k with
     | .sl _ sz es=>if 0≤n∧m=es.length∧n<(m:Int)∧sz=j.size then some (.cj k m n.toNat 0,.none) else .none
     | _=> .none
    | .fi k m lo hi=>match ad.at bs k with
     | .sl _ sz es=>if 0≤n∧m=es.length∧hi≤m∧(lo:Int)+n<(hi:Int)∧sz=j.size then some (.cj k m (lo+n.toNat) 0,.none) else .none
     | _=> .none
    | _=> .none
   | .none=> .none
  | _=> .none
 | _,_=> .none
def oe (c:ax) (i:Option TI) (x:AV) (ix:AV):Out:=
 match i,ix with
 | some i,.int _ n=>match i.desc,x with
  | .string,.str s=>if 0≤n then match s[n.toNat]? with
    | some c=>some (.int .u8 c.toNat,.none)
    | .none=> .none
   else .none
  | .array len e,.agg cs=>if 0≤n∧n<(len:Int) then match c.ti e with
    | some j=>(gk j cs (n.toNat*j.size)).map (·,.none)
    | .none=> .none
   else .none
  | _,_=> .none
 | _,_=> .none
def iB (x:AV) (i:Nat):Out:=
 match x with
 | .aI vs=>(vs[i]?).map (·,.none)
 | _=> .none
def eU (c:ax) (op:Op) (t:Env) (bs:List ad) (id:Nat):Out:=
 match op with
 | .move x | .assign x=>some (ev t x,.none)
 | .pick x a b=>tr (ev t x) (ev t a) (ev t b)
 | .alloc e=>tu (c.ti e) e id
 | .box e x=>F2 e (ev t x).cells id
 | .build ty parts=>qA c (c.ti ty) (parts.toList.map fun p=>(p.1,ev t p.2))
 | .buildSlice ty len parts=>ei c (c.ti ty) len (parts.toList.map fun p=>(p.1,ev t p.2)) id bs
 | .load ty a=>lP (c.ti ty) (ev t a) bs
 | .store ty a x=>lQ (c.ti ty) (ev t a) (ev t x).cells bs
 | .nilCheck x=>fN (ev t x)
 | .makeInterface ty x=>tw c ty (ev t x)
 | .binOp op ty x y _=>(Ed c ty op y (ev t x) (ev t y)).map (·,.none)
 | .unOp op _ x=>(H6 op (ev t x)).map (·,.none)
 | .convert src dst x=>dq c (c.ti src) (c.ti dst) (ev t x) bs id
 | .makeFunc (.func f) first caps=>some (.fn f (lA t first.toList) (lA t caps.toList),.none)
 | .makeSlice ty l m=>iz c (c.ti ty) (ev t l) (ev t m) id
 | .slice ty x lo hi mx=>match c.ti ty with
  | some i=>match mx with
   | .none=>db c i.desc (ev t x) (lo.map (ev t)) (hi.map (ev t)) bs
   | some m=>ji c i.desc (ev t x) (lo.map (ev t)) (hi.map (ev t)) (some (ev t m)) bs
  | .none=> .none
 | .fieldAddr sty x f=>dE (c.ti sty) (ev t x) f bs
 | .field sty x f=>od c (c.ti sty) (ev t x) f
 | .indexAddr ty x ix=>dF c (c.ti ty) (ev t x) (ev t ix) bs
 | .index ty x ix=>oe c (c.ti ty) (ev t x) (ev t ix)
 | .extract x i=>iB (ev t x) i
 | .makeMap ty r=>jY (r.map (ev t)) (c.ti ty) id
 | .range ty x=>kN (c.ti ty) (ev t x) bs id
 | .next x str=>tv (ev t x) str bs
 | .lookup ty x k ok=>dB c (c.ti ty) (ev t x) (ev t k) ok bs
 | .mapUpdate ty m k x=>aO c (c.ti ty) (ev t m) (ev t k) (ev t x) bs
 | .insert ty m k x=>aO c (c.ti ty) (ev t m) (ev t k) (ev t x) bs
 | .mapEntry ty m k=>gY c (c.ti ty) (ev t m) (ev t k) bs
 | .entryStore _ m s x=>eZ (ev t m) (ev t s) (ev t x) bs
 | .entry x=>lR (ev t x) bs
 | .call k=>match k.callee with
  | .builtin b=>dQ c b k.argTypes.toList (lA t k.args.toList) bs id
  | _=> .none
 | _=> .none
def asks:Op→Bool
 | .alloc _ | .box _ _ | .buildSlice _ _ _ | .makeSlice _ _ _ | .convert _ _ _ | .makeMap _ _ | .range _ _=>true
 | .call k=>match k.callee with
  | .builtin .append=>true
  | _=>false
 | _=>false
def bw (ops:Array Oper) (t:Env) (g:Option (Nat×Bool)):Option Bool:=
 match g with
 | .none=>some true
 | some (j,want)=>match (ops[j]?).bind (·.dst) with
  | .none=>some false
  | some d=>match t.get .any d with
   | .bool b=>some (b==want)
   | .aI _=>some false
   | _=> .none
def bd (t:Env) (d:Option Tmp) (v:AV):Env:=
 match d with
 | some i=>t.set i v
 | .none=>t
def cJ.on (e:cJ) (bs:List ad) (id:Nat):Option (List ad):=
 match e with
 | .none=>some bs
 | .new b=>match bs[id]? with
  | some .dead=>some (bs.set id b)
  | _=> .none
 | .gL k b=>some (bs.set k b)
 | .move k b=>match bs[id]? with
  | some .dead=>some ((bs.set k .gone).set id b)
  | _=> .none
 | .app b=>some (bs++ [b])
 | .all bs'=>some bs'
inductive PS where
 | fn (f:FuncId)
 | fg (k:Nat) (s:Site) (env:List AV)
abbrev aG:=PS→List AV→List ad→Option (AV×List ad)
def og (v:AV):ad→Bool
 | .sl sh _ es=>sh.out || v.apart (es.flatMap AV.cells)
 | _=>false
def dt (v:AV) (bs:List ad):List AV→Bool
 | []=>true
 | .az k _::r=>og v (ad.at bs k)&&dt v bs r
 | .fi k _ _ _::r=>og v (ad.at bs k)&&dt v bs r
 | _::r=>dt v bs r
def cH (k:Bool) (v:AV) (args:List AV) (bs:List ad):Out:=
 match v.flat || !kM args || (k&&dt v bs args) with
 | true=>some (v,.none)
 | false=>some (v,.all (aH bs args))
def xI (v:AV) (b:List ad):Option (Nat×Hd×Nat×List AV):=
 match v with
 | .az k n=>match ad.at b k with
  | .sl sh sz es=>match sh.link with
   | none=>some (n,sh,sz,es)
   | some _=>none
  | _=>none
 | _=>none
theorem Eg {v:AV} {b:List ad} {n:Nat} {sh:Hd} {sz:Nat} {es:List AV} (h:xI v b=some (n,sh,sz,es)): ∃k,v= .az k n∧ad.at b k= .sl sh sz es∧sh.link=none:=by
 unfold xI at h;split at h
 ·split at h
  ·rename_i hb;split at h
   ·rename_i hl;cases h;exact ⟨_,rfl,hb,hl⟩
   ·cases h
  ·cases h
 ·cases h
def wa (c:ax) (cf:aG) (f:FuncId) (args:List AV) (bs:List ad):Out:=
 match cV bs args with
 | some l=>match aj l with
  | true=>match c.ov f with
   | some g=>match g l with
    | some v=>if v.plain=true then cH (c.Di f) v (aM args) bs else .none
    | .none=> .none
   | .none=>match cf (.fn f) l [] with
    | some (v, [])=>if v.plain=true then cH (c.Di f) v (aM args) bs else .none
    | some (v,x::r)=>match xI v (x::r) with
     | some (n,sh,sz,es)=>match kM (aM args) with
      | true=>some (.az bs.length n,.all (aH bs (aM args)++ [.sl sh sz es]))
      | false=>some (.az bs.length n,.app (.sl sh sz es))
     | .none=>match cf (.fn f) args bs with
      | some (v,bs')=>some (v,.all bs')
      | .none=> .none
    | .none=> .none
  | false=>match cf (.fn f) args bs with
   | some (v,bs')=>some (v,.all bs')
   | .none=> .none
 | .none=> .none
def o7 (c:ax) (cf:aG) (f:FuncId) (args:List AV) (bs:List ad):Out:=
 match c.il f with
 | true=>match cf (.fn f) args bs with
  | some (v,bs')=>some (v,.all bs')
  | .none=> .none
 | false=>wa c cf f args bs
def nD (c:ax) (cf:aG) (f:FuncId) (args:List AV) (bs:List ad):Out:=
 match c.BH f with
 | some g=>match g args bs with
  | some (v,bs')=>some (v,.all bs')
  | .none=> .none
 | .none=>o7 c cf f args bs
def bJ (c:ax) (cf:aG) (op:Op) (t:Env) (bs:List ad) (id:Nat):Out:=
 match op with
 | .call k=>match k.callee with
  | .value f=>match ev t f with
   | .fn g first caps=>match c.ext g with
    | some G=>match G (first++lA t k.args.toList++caps) with
     | some v=>some (v,.none)
     | .none=> .none
    | .none=>nD c cf g (first++lA t k.args.toList++caps) bs
   | .fg l s env=>match cf (.fg l s env) (lA t k.args.toList) bs with
    | some (v,bs')=>some (v,.all bs')
    | .none=> .none
   | _=> .none
  | _=>eU c (.call k) t bs id
 | op=>eU c op t bs id
def next (id:Nat) (op:Op):Nat:=match asks op with
 | true=>id+1
 | false=>id
def oh (c:ax) (cf:aG) (ops:Array Oper):List Oper→Nat→Env→List ad→Option St
 | [],_,t,bs=>some {t:=t,b:=bs}
 | o::rest,id,t,bs=>
  match bw ops t o.guard with
  | some true=>match bJ c cf o.op t bs id with
   | some (v,e)=>match e.on bs id with
    | some bs'=>oh c cf ops rest (next id o.op) (bd t o.dst v) bs'
    | .none=> .none
   | .none=> .none
  | some false=>oh c cf ops rest (next id o.op) (bd t o.dst (.aI [])) bs
  | .none=> .none
def cv:List Oper→Nat
 | []=>0
 | o::r=>(match asks o.op with | true=>1 | false=>0)+cv r
mutual
def AV.under (n:Nat):AV→Bool
 | .ptr k _ | .cj k _ _ _ | .az k _ | .fi k _ _ _ | .cu k | .jZ k=>decide (k<n)
 | .agg cs=>av n cs
 | .aI cs=>av n cs
 | .fn _ a b=>av n a&&av n b
 | .fg k _ env=>decide (k<n)&&av n env
 | _=>true
def av (n:Nat):List AV→Bool
 | []=>true
 | v::r=>v.under n&&av n r
end
def forget (n:Nat) (v:AV):AV:=match v.under n with
 | true=>v
 | false=> .any
def dS (n:Nat) (e:AV×AV×Nat):AV×AV×Nat:=(e.1,forget n e.2.1,e.2.2)
def ej (n:Nat) (sh:Hd):Hd:=
 match sh.link with
 | some (_,_,k,_)=>if k<n then sh else ⟨sh.out,sh.ty,none⟩
 | none=>sh
def bp (n:Nat):ad→ad
 | .var ty cs=> .var ty (cs.map (forget n))
 | .sl sh sz es=> .sl (ej n sh) sz es
 | .mp es clock=> .mp (es.map (dS n)) clock
 | b=>b
def St.cut (s:St) (n:Nat):St:=
 match decide (s.b.length≤n) with
 | true=>s
 | false=>{t:=s.t.map (forget n),b:=(s.b.take n).map (bp n)}
mutual
def AV.hand (n:Nat) (bs:List ad):AV→Option AV
 | .az k m=>if k<n then some (.az k m) else match ad.at bs k with
  | .sl _ sz es=>if m=es.length then some (.ak .none sz es) else .none
  | _=> .none
 | .fi k m lo hi=>if k<n then some (.fi k m lo hi) else match ad.at bs k with
  | .sl _ sz es=>if m=es.length∧lo≤hi∧hi≤m then some (.ak .none sz ((es.take hi).drop lo)) else .none
  | _=> .none
 | .agg cs=>(jj n bs cs).map .agg
 | .aI cs=>(jj n bs cs).map .aI
 | .bW nl=>some (.ak nl 0 [])
 | v=>some v
def jj (n:Nat) (bs:List ad):List AV→Option (List AV)
 | []=>some []
 | v::r=>match v.hand n bs,jj n bs r with
  | some a,some l=>some (a::l)
  | _,_=> .none
end
def sJ (c:ax) (t:Env) (bs:List ad):ResultVar→Option AV
 | .tmp i=>some (t.get .any i)
 | .cell a ty=>match t.get .any a with
  | .ptr k off=>match ad.at bs k,c.ti ty with
   | .var _ cs,some i=>gk i cs off
   | _,_=> .none
  | _=> .none
def gm (c:ax) (t:Env) (bs:List ad):List ResultVar→Option (List AV)
 | []=>some []
 | r::l=>match sJ c t bs r,gm c t bs l with
  | some a,some b=>some (a::b)
  | _,_=> .none
def y7:List AV→AV
 | [v]=>v
 | l=> .aI l
def handOver (n:Nat) (s:St) (v:AV):Option (AV×List ad):=
 match v.hand n s.b with
 | some v'=>match v'.under n with
  | true=>some (v',((s.cut n).b))
  | false=>some (v,s.b)
 | .none=> .none
def ft:Env→Nat→List AV→Env
 | t,_, []=>t
 | t,i,v::r=>ft (t.set i v) (i+1) r
def start (n:Nat) (args:List AV):Env:=ft (Tr.mk .any 24 n) 0 args
def xJ (m:List Nat) (o:Oper):Nat:=
 o.after.toList.foldl (fun s e=>match Region.binds .any e with | true=>s ||| (2^e.on ||| m.getD e.on 0) | false=>s) 0
def y8:List Oper→List Nat→List Nat
 | [],m=>m
 | o::r,m=>y8 r (m++ [xJ m o])
def fh (ops:Array Oper):List Nat:=y8 ops.toList []
def ordered (b:List Nat) (i j:Nat):Bool:=(b.getD j 0).testBit i
def cB:List Oper→Nat→Bool
 | [],_=>true
 | o::r,k=>(o.after.toList.all fun e=> !Region.binds .any e || decide (e.on<k))&&cB r (k+1)
def PT:Op→Bool
 | .select _ _=>false
 | _=>true
def o8 (ops:Array Oper) (b:List Nat) (o:Oper) (i:Nat):List Oper→Nat→Bool
 | [],_=>true
 | p::r,j=>(ordered b i j || o.apart ops p)&&o8 ops b o i r (j+1)
def lS (ops:Array Oper) (b:List Nat):List Oper→Nat→Bool
 | [],_=>true
 | o::r,i=>PT o.op&&o8 ops b o i r (i+1)&&lS ops b r (i+1)
def qC (ops:Array Oper):Bool:=cB ops.toList 0&&lS ops (fh ops) ops.toList 0
def blind:Op→Bool
 | .move _ | .assign _ | .pick _ _ _ | .build _ _ | .binOp _ _ _ _ _ | .unOp _ _ _ | .index _ _ _ | .field _ _ _ | .extract _ _ | .nilCheck _=>true
 | _=>false
def mN (ops:Array Oper) (j:Nat):Bool:=
 match ops[j]? with
 | some o=>blind o.op
 | none=>true
def xK (ops:Array Oper) (b:List Nat) (i:Nat):Nat→Bool
 | 0=>true
 | j+1=>(j==i || ordered b i j || ordered b j i || mN ops j)&&xK ops b i j
def alone (ops:Array Oper) (i:Nat):Bool:=xK ops (fh ops) i ops.size
def b8:List Oper→Nat→Nat→Nat
 | _,0,base=>base
 | [],_+1,base=>base
 | o::r,i+1,base=>b8 r i (next base o.op)
def cK (b:List Nat) (i:Nat):List Oper→Nat→Nat→List Nat
 | [],_,_=> []
 | o::r,j,id=>match asks o.op&& !ordered b j i with
  | true=>id::cK b i r (j+1) (next id o.op)
  | false=>cK b i r (j+1) (next id o.op)
def aP:List Nat→List ad→List ad
 | [],bs=>bs
 | k::r,bs=>aP r (bs.set k .dead)
def dc (ops:Array Oper) (base i:Nat) (bs:List ad):List ad:=aP (cK (fh ops) i ops.toList 0 base) bs
def cn:Op→Bool
 | .store _ _ _=>true
 | _=>false
def eG:Op→Bool
 | .call ⟨.builtin .append,_,_⟩=>true
 | .slice _ _ _ _ .none=>true
 | _=>false
def rF (op:Op):ad→Bool
 | .var _ _=>cn op
 | .sl _ _ _=>eG op
 | _=>false
def cL:Op→Option Nat
 | .load _ (.tmp p)=>some p
 | .slice _ (.tmp p) _ _ .none=>some p
 | _=>none
def isLen:Op→Bool
 | .call ⟨.builtin .len,_,_⟩=>true
 | _=>false
def qD (o:Op):List Nat:=o.operands.toList.filterMap fun | .tmp i=>some i | _=>none
def kP (ops:Array Oper) (j q:Nat):List Oper→Nat→Bool
 | [],_=>true
 | o::r,k=>(o.dst !=some q || k==j || ordered (fh ops) j k || ordered (fh ops) k j)&&kP ops j q r (k+1)
def fv (ops:Array Oper) (j p:Nat):Option Nat:=
 match ops.toList.filter fun o=>o.dst==some p with
 | []=>some p
 | [o]=>match o.op with
  | .move (.tmp q)=>match kP ops j q ops.toList 0 with
   | true=>some q
   | false=>none
  | _=>none
 | _=>none
def eM (ops:Array Oper) (j:Nat) (op:Op):Option Nat:=
 match cL op with
 | some p=>fv ops j p
 | none=>none
def lT (ops:Array Oper) (b:List Nat) (i:Nat):List Oper→Nat→List Nat
 | [],_=> []
 | o::r,j=>match j==i || ordered b i j || ordered b j i,eM ops j o.op with
  | false,some p=>p::lT ops b i r (j+1)
  | _,_=>lT ops b i r (j+1)
def gn (ops:Array Oper) (i:Nat):List Nat:=lT ops (fh ops) i ops.toList 0
def gD (ops:Array Oper) (j:Nat) (op o:Op):Bool:=blind o || (isLen o&&cn op) || (match eM ops j o with | some q=> !(qD op).contains q | none=>false)
def o9 (ops:Array Oper) (b:List Nat) (i:Nat) (op:Op):List Oper→Nat→Bool
 | [],_=>true
 | o::r,j=>(j==i || ordered b i j || ordered b j i || gD ops j op o.op)&&o9 ops b i op r (j+1)
def bA (ops:Array Oper) (i:Nat) (op:Op):Bool:=
 (cn op || eG op)&&o9 ops (fh ops) i op ops.toList 0&&(gn ops i).all fun p=>kP ops i p ops.toList 0
def wb:AV→Option (Option Nat)
 | .ptr k _=>some (some k)
 | .cj k _ _ _=>some (some k)
 | .az _ _=>some .none
 | .fi _ _ _ _=>some .none
 | _=> .none
def eN (k:Nat) (v:AV):Bool:=
 match wb v with
 | .none=>true
 | some .none=>false
 | some (some k')=>k' !=k
def lU (ops:Array Oper):List Oper→Nat→Bool
 | [],_=>false
 | o::r,i=>(!alone ops i&&bA ops i o.op) || lU ops r (i+1)
def mO (ops:Array Oper):Bool:=lU ops ops.toList 0
def dY:Op→Bool
 | .call k=>match k.callee with
  | .value _=>true
  | _=>false
 | _=>false
def xL (c:ax):Op→Bool
 | .call k=>match k.callee with
  | .value (.func f)=>c.own f
  | _=>false
 | _=>false
def eA:Op→Option Nat
 | .load _ (.tmp p)=>some p
 | .call ⟨.builtin .len,args,_⟩=>match args.toList with
  | [.tmp p]=>some p
  | _=>none
 | _=>none
def lV (ops:Array Oper) (j:Nat) (op:Op):Option Nat:=
 match eA op with
 | some p=>fv ops j p
 | none=>none
def qE (ops:Array Oper) (b:List Nat) (i:Nat):List Oper→Nat→List Nat
 | [],_=> []
 | o::r,j=>match j==i || ordered b i j || ordered b j i,lV ops j o.op with
  | false,some p=>p::qE ops b i r (j+1)
  | _,_=>qE ops b i r (j+1)
def jk (ops:Array Oper) (i:Nat):List Nat:=qE ops (fh ops) i ops.toList 0
def lW (ops:Array Oper) (b:List Nat) (i:Nat):List Oper→Nat→Bool
 | [],_=>true
 | o::r,j=>(j==i || ordered b i j || ordered b j i || blind o.op || (lV ops j o.op).isSome)&&lW ops b i r (j+1)
def bO (c:ax) (ops:Array Oper) (i:Nat) (op:Op):Bool:=
 xL c op&&lW ops (fh ops) i ops.toList 0&&(jk ops i).all fun p=>ops.toList.all fun o=>o.dst !=some p
def iC (n:Nat):AV→Bool
 | .ptr k _=>decide (k<n)
 | .cj k _ _ _=>decide (k<n)
 | .az k _=>decide (k<n)
 | .fi k _ _ _=>decide (k<n)
 | .cu k=>decide (k<n)
 | .jZ k=>decide (k<n)
 | _=>true
def pd (cf:aG):aG:=fun f args bs=>
 match f,bs with
 | .fn f, []=>match cf (.fn f) args [] with
  | some (v, [])=>some (v, [])
  | some (v,x::r)=>match v.hand 0 (x::r) with
   | some v'=>match v'.under 0 with
    | true=>some (v', [])
    | false=>some (v,x::r)
   | none=>none
  | none=>none
 | f,bs=>cf f args bs
def y9:AV→Option Nat
 | .ptr k _=>some k
 | .cj k _ _ _=>some k
 | .az k _=>some k
 | .fi k _ _ _=>some k
 | .cu k=>some k
 | .jZ k=>some k
 | _=>none
def pe (c:ax) (ops:Array Oper):List Oper→Nat→Bool
 | [],_=>false
 | o::r,i=>(!alone ops i&&bO c ops i o.op) || pe c ops r (i+1)
def tx (c:ax) (ops:Array Oper):Bool:=pe c ops ops.toList 0
def fO (op:Op):Option Nat:=
 match eA op with
 | some p=>some p
 | none=>cL op
def bX (c:ax) (ops:Array Oper) (j:Nat) (op:Op) (t:Env):Bool:=
 match fO op with
 | none=>true
 | some p=>match fv ops j p with
  | none=>true
  | some q=>(!tx c ops || y9 (t.get .any p)==y9 (t.get .any q))&&(!mO ops || wb (t.get .any p)==wb (t.get .any q))
def eE (cf:aG):Bool→aG
 | true=>cf
 | false=>pd cf
def aR (c:ax) (cf:aG) (ops:Array Oper) (base i:Nat) (o:Oper) (s:St):Option St:=
 match bw ops s.t o.guard with
 | some true=>match alone ops i with
  | true=>match bJ c cf o.op s.t s.b (b8 ops.toList i base) with
   | some (v,e)=>match e.on s.b (b8 ops.toList i base) with
    | some bs'=>some {t:=bd s.t o.dst v,b:=bs'}
    | .none=> .none
   | .none=> .none
  | false=>match bJ c (eE cf (bO c ops i o.op)) o.op s.t (dc ops base i s.b) (b8 ops.toList i base) with
   | some (v,.none)=>match bX c ops i o.op s.t with
    | true=>some {t:=bd s.t o.dst v,b:=s.b}
    | false=> .none
   | some (v,.new x)=>match asks o.op,s.b[b8 ops.toList i base]? with
    | true,some .dead=>some {t:=bd s.t o.dst v,b:=s.b.set (b8 ops.toList i base) x}
    | _,_=> .none
   | some (v,.gL k x)=>match bA ops i o.op&&rF o.op x&&bX c ops i o.op s.t&&(gn ops i).all fun p=>eN k (s.t.get .any p) with
    | true=>some {t:=bd s.t o.dst v,b:=s.b.set k x}
    | false=> .none
   | some (v,.app x)=>match bO c ops i o.op&&(jk ops i).all fun p=>iC s.b.length (s.t.get .any p) with
    | true=>some {t:=bd s.t o.dst v,b:=s.b++ [x]}
    | false=> .none
   | _=> .none
 | some false=>some {t:=bd s.t o.dst (.aI []),b:=s.b}
 | .none=> .none
def Eh (c:ax) (cf:aG) (ops:Array Oper) (base:Nat):List Oper→Nat→St→Option St
 | [],_,s=>some s
 | o::r,i,s=>match aR c cf ops base i o s with
  | some s'=>Eh c cf ops base r (i+1) s'
  | .none=> .none
def H7 (c:ax) (fn:Func) (n:Nat) (r:Option (Ex×St)):Option (AV×List ad):=
 match r with
 | some (.normal,s') | some (.ret,s')=>match gm c s'.t s'.b fn.results.toList with
  | some vs=>handOver n s' (y7 vs)
  | none=>none
 | _=>none
def za (c:ax) (ex:Code→St→Option (Ex×St)):aG:=fun f args bs=>
 match f with
 | .fg _ _ _=>none
 | .fn f=>match c.fn.get none f with
  | some fn=>match fn.body with
   | some a=>H7 c fn bs.length (ex a {t:=start fn.ntmps args,b:=bs})
   | none=>none
  | none=>none
def region (c:ax) (cf:aG) (ops:Array Oper) (draw:Bool) (s:St):Option St:=
 match draw with
 | false=>oh c cf ops ops.toList s.b.length s.t (s.b++List.replicate (cv ops.toList) .dead)
 | true=>match qC ops with
  | true=>Eh c cf ops s.b.length ops.toList 0 {s with b:=s.b++List.replicate (cv ops.toList) .dead}
  | false=>none
def JV (r:Option (Ex×St)) (f:St→Option (Ex×St)):Option (Ex×St):=
 match r with
 | some (.normal,s)=>f s
 | r=>r
def Lu (id:Nat) (r:Option (Ex×St)):Option (Ex×St):=
 match r with
 | some (.exit i,s)=>if i=id then some (.normal,s) else some (.exit i,s)
 | r=>r
def PU (v:AV) (a b:Option (Ex×St)):Option (Ex×St):=
 match v with
 | .bool true=>a
 | .bool false=>b
 | _=>none
def exec (c:ax):Nat→Code→St→Option (Ex×St)
 | 0,_,_=>none
 | n+1,code,s=>
  match code with
  | .skip=>some (.normal,s)
  | .label _=>some (.normal,s)
  | .ret=>some (.ret,s)
  | .exit id=>some (.exit id,s)
  | .seq a b=>JV (exec c n a s) (exec c n b)
  | .cond x a b=>PU (ev s.t x) (exec c n a s) (exec c n b s)
  | .block id a=>Lu id (exec c n a s)
  | .loop a=>JV (exec c n a s) fun s'=>exec c n (.loop a) (s'.cut s.b.length)
  | .region _ ops draw=>(region c (za c (exec c n)) ops draw s).map (Ex.normal,·)
  | _=>none
def call (c:ax) (n:Nat):aG:=za c (exec c n)
end Go.Am
