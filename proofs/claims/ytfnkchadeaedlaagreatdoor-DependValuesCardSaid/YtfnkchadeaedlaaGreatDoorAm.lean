/-
 The abstract machine: a fuelled evaluator of translated code over abstract values. Slices that came in are taken by value, the memory that a call makes for itself lies in numbered boxes, and no address, no tape and no capacity is seen. Definitions alone.
-/
import GoSem.Dispatch
import GoSem.Machine.Return
import Derived.Orders
set_option linter.all false
namespace Go.Am
inductive Ex where
 | normal | ret | exit (id:Nat)
structure Site where
 ps:Array Tmp
 asg:Code
 body:Code
 keep:List Nat
 nt:Nat
 deriving Inhabited
def posOf (keep:List Nat) (i:Nat):Option Nat:=
 match keep with
 | []=>none
 | j::r=>if i=j then some 0 else (posOf r i).map (· +1)
inductive AV where
 | any
 | j8
 | int (k:IntKind) (n:Int)
 | bool (b:Bool)
 | str (s:List UInt8)
 | agg (cs:List AV)
 | aT (vs:List AV)
 | bS
 | ptr (k off:Nat)
 | cz (k n i off:Nat)
 | dd (cs:List AV)
 | ah (nl:Option Bool) (sz:Nat) (es:List AV)
 | b8 (nl:Option Bool)
 | ay (k n:Nat)
 | fN (k n lo hi:Nat)
 | fn (f:FuncId) (first caps:List AV)
 | ep
 | gj (nn:Bool)
 | lh (t:TypeId) (k:IntKind) (n:Int)
 | fL (k:Nat) (s:Site) (env:List AV)
 | cF (k:Nat)
 | kD (k:Nat)
 | gX
 deriving Inhabited
inductive NI where
 | ready | busy
 | done (e:Ex)
structure Hd where
 out:Bool
 ty:Option TypeId
 link:Option (Nat×Nat×Nat×Nat)
 deriving Inhabited
inductive R3 where
 | str (s:List UInt8) (pos:Nat)
 | map (m:Nat) (seen:List Nat) (clock:Nat)
 deriving Inhabited
inductive ad where
 | dead
 | var (ty:TypeId) (cs:List AV)
 | sl (sh:Hd) (sz:Nat) (es:List AV)
 | loop (st:NI)
 | mp (es:List (AV×AV×Nat)) (clock:Nat)
 | gone
 | iter (o:R3)
 deriving Inhabited
inductive Tr (α:Type) where
 | lf
 | nd (v:α) (l r:Tr α)
def Tr.get {α:Type} (d:α):Tr α→Nat→α
 | .lf,_=>d
 | .nd v l r,i=>match i with
  | 0=>v
  | j+1=>match j%2 with
   | 0=>l.get d (j / 2)
   | _=>r.get d (j / 2)
def Tr.set {α:Type}:Tr α→Nat→α→Tr α
 | .lf,_,_=> .lf
 | .nd v l r,i,x=>match i with
  | 0=> .nd x l r
  | j+1=>match j%2 with
   | 0=> .nd v (l.set (j / 2) x) r
   | _=> .nd v l (r.set (j / 2) x)
def Tr.has {α:Type}:Tr α→Nat→Bool
 | .lf,_=>false
 | .nd _ l r,i=>match i with
  | 0=>true
  | j+1=>match j%2 with
   | 0=>l.has (j / 2)
   | _=>r.has (j / 2)
def Tr.mk {α:Type} (d:α):Nat→Nat→Tr α
 | 0,_=> .lf
 | k+1,n=>match n with
  | 0=> .lf
  | m+1=> .nd d (Tr.mk d k ((m+1) / 2)) (Tr.mk d k (m / 2))
def Tr.map {α β:Type} (f:α→β):Tr α→Tr β
 | .lf=> .lf
 | .nd v l r=> .nd (f v) (l.map f) (r.map f)
abbrev Env:=Tr AV
structure St where
 t:Env
 b:List ad
def AV.cells:AV→List AV
 | .agg cs=>cs
 | v=> [v]
def AV.ca:AV→Bool
 | .any | .agg _ | .aT _=>false
 | _=>true
def eA:List AV→Bool
 | []=>true
 | v::r=>v.ca&&eA r
mutual
def AV.plain:AV→Bool
 | .ptr _ _ | .cz _ _ _ _ | .ay _ _ | .fN _ _ _ _ | .fL _ _ _ | .cF _ | .kD _=>false
 | .agg cs=>al cs
 | .aT cs=>al cs
 | .fn _ a b=>al a&&al b
 | _=>true
def al:List AV→Bool
 | []=>true
 | v::r=>v.plain&&al r
end
mutual
def AV.flat:AV→Bool
 | .ptr _ _ | .cz _ _ _ _ | .ay _ _ | .fN _ _ _ _ | .dd _ | .ah _ _ _ | .b8 _ | .fL _ _ _ | .cF _ | .kD _=>false
 | .agg cs=>flatAll cs
 | .aT cs=>flatAll cs
 | .fn _ a b=>flatAll a&&flatAll b
 | _=>true
def flatAll:List AV→Bool
 | []=>true
 | v::r=>v.flat&&flatAll r
end
def AV.NJ:AV→Nat
 | .int _ _=>1
 | .str _=>2
 | .bool _=>3
 | .ah _ _ _=>4
 | .b8 _=>4
 | _=>0
def AV.differ:AV→AV→Bool
 | .int _ n,.int _ m=>decide (n≠m)
 | .str s,.str t=>decide (s≠t)
 | .bool a,.bool b=>a !=b
 | x,y=>decide (x.NJ≠0∧y.NJ≠0∧x.NJ≠y.NJ)
def eB:List AV→List AV→Bool
 | [],_=>true
 | _::_, []=>false
 | x::xs,y::ys=> !x.differ y&&eB xs ys
def jF (xs:List AV):List AV→Bool
 | []=>eB xs []
 | y::ys=>eB xs (y::ys) || jF xs ys
mutual
def AV.apart (ys:List AV):AV→Bool
 | .ptr _ _ | .cz _ _ _ _ | .ay _ _ | .fN _ _ _ _ | .dd _ | .fn _ _ _ | .fL _ _ _ | .cF _ | .kD _=>false
 | .ah _ _ es=>(es.isEmpty || !jF (es.flatMap AV.cells) ys)&&eH ys es
 | .agg cs=>eH ys cs
 | .aT cs=>eH ys cs
 | _=>true
def eH (ys:List AV):List AV→Bool
 | []=>true
 | v::r=>v.apart ys&&eH ys r
end
def iY:Value→AV
 | .int k n=> .int k n
 | .bool b=> .bool b
 | .string s=> .str s.data.toList
 | .pointer none=> .bS
 | .slice none 0 0=> .ah (some true) 0 []
 | .nilFunc=> .ep
 | .nilIface=> .gj false
 | .agg _=> .any
 | .tuple _=> .any
 | _=> .j8
def fS:Value→AV
 | .agg cs=> .agg (cs.toList.map iY)
 | .tuple vs=> .aT (vs.toList.map iY)
 | v=>iY v
def ev (t:Env):Operand→AV
 | .tmp i=>t.get .any i
 | .const v=>fS v
 | .func f=> .fn f [] []
 | .global _=> .any
structure TI where
 desc:TypeDesc
 size:Nat
 bytes:Nat
 zero:Option (List AV)
 agg:Bool
 eq:Bool
 fields:List (TypeId×Nat×Nat)
structure ax where
 ty:Tr (Option TI)
 fn:Tr (Option Func)
 ov:FuncId→Option (List AV→Option AV)
 CU:FuncId→Option (List AV→List ad→Option (AV×List ad))
 ext:FuncId→Option (List AV→Option AV)
 own:FuncId→Bool
 cut:Bool:=false
 iV:FuncId→Bool:=fun _=>false
 EG:FuncId→Bool:=fun _=>false
def ax.ti (c:ax) (t:TypeId):Option TI:=c.ty.get none t
def ax.descOf (c:ax) (t:TypeId):Option TypeDesc:=(c.ti t).map (·.desc)
def gK (i:TI) (cs:List AV) (off:Nat):Option AV:=
 match i.agg with
 | true=>if off+i.size≤cs.length then some (.agg ((cs.drop off).take i.size)) else none
 | false=>cs[off]?
def kE (op:BinOp) (k:IntKind) (a b:Int):Option AV:=
 match op with
 | .add=>some (.int k (k.wrap (a+b)))
 | .sub=>some (.int k (k.wrap (a-b)))
 | .mul=>some (.int k (k.wrap (a*b)))
 | .quo=>if b=0 then none else some (.int k (k.wrap (a.tdiv b)))
 | .rem=>if b=0 then none else some (.int k (a.tmod b))
 | .and=>some (.int k (k.wrap (BitVec.ofInt k.bits a&&&BitVec.ofInt k.bits b).toNat))
 | .or=>some (.int k (k.wrap (BitVec.ofInt k.bits a ||| BitVec.ofInt k.bits b).toNat))
 | .xor=>some (.int k (k.wrap (BitVec.ofInt k.bits a^^^BitVec.ofInt k.bits b).toNat))
 | .andNot=>some (.int k (k.wrap (BitVec.ofInt k.bits a&&& ~~~ BitVec.ofInt k.bits b).toNat))
 | .eql=>some (.bool (a==b))
 | .neq=>some (.bool (a !=b))
 | .lss=>some (.bool (decide (a<b)))
 | .leq=>some (.bool (decide (a≤b)))
 | .gtr=>some (.bool (decide (a>b)))
 | .geq=>some (.bool (decide (a≥b)))
 | _=>none
def lr (op:BinOp) (k:IntKind) (a b:Int):Option AV:=
 if b<0 then none else
 match op with
 | .shl=>some (.int k (k.wrap (a*2^min b.toNat k.bits)))
 | .shr=>some (.int k (a.fdiv (2^min b.toNat k.bits)))
 | _=>none
def ux:Nat:=4611686018427387904
def xh (op:BinOp) (a b:List UInt8):Option AV:=
 match op with
 | .add=>if a.length+b.length≤ux then some (.str (a++b)) else none
 | .eql=>some (.bool (a==b))
 | .neq=>some (.bool (!(a==b)))
 | .lss=>some (.bool (Op.bytesLess a b))
 | .leq=>some (.bool (Op.bytesLess a b || a==b))
 | .gtr=>some (.bool (!(Op.bytesLess a b || a==b)))
 | .geq=>some (.bool (!Op.bytesLess a b))
 | _=>none
def lu (c:ax) (d:TypeDesc) (x y:AV):Option Bool:=
 match d with
 | .bool=>match x,y with
  | .bool a,.bool b=>some (a==b)
  | _,_=>none
 | .int _=>match x,y with
  | .int k a,.int k' b=>if k=k' then some (a==b) else none
  | _,_=>none
 | .string=>match x,y with
  | .str a,.str b=>some (a==b)
  | _,_=>none
 | .pointer e=>match x,y with
  | .bS,.bS=>some true
  | .bS,.ptr _ _ | .ptr _ _,.bS | .bS,.dd _ | .dd _,.bS=>some false
  | .ptr k a,.ptr l b=>match c.ti e with
   | some j=>if j.size≠0 then some (k==l&&a==b) else none
   | none=>none
  | _,_=>none
 | .slice _=>match x,y with
  | .ah (some n) _ _,.ah (some true) 0 []=>some n
  | .ah _ _ (_::_),.ah (some true) 0 []=>some false
  | .b8 (some n),.ah (some true) 0 []=>some n
  | _,_=>none
 | .func _ _ _=>match x,y with
  | .ep,.ep=>some true
  | .fn _ _ _,.ep | .ep,.fn _ _ _=>some false
  | _,_=>none
 | _=>none
def both:Option Bool→Option Bool→Option Bool
 | some a,some b=>some (a&&b)
 | _,_=>none
def eqFields (part:TypeId→List AV→Nat→Option AV) (eq:TypeId→AV→AV→Option Bool) (xs ys:List AV):List (TypeId×Nat×Nat)→Option Bool
 | []=>some true
 | (t,off,_)::r=>match part t xs off,part t ys off with
  | some a,some b=>both (eq t a b) (eqFields part eq xs ys r)
  | _,_=>none
def eqItems (part:TypeId→List AV→Nat→Option AV) (eq:TypeId→AV→AV→Option Bool) (e:TypeId) (n:Nat) (xs ys:List AV):List Nat→Option Bool
 | []=>some true
 | i::r=>match part e xs (i*n),part e ys (i*n) with
  | some a,some b=>both (eq e a b) (eqItems part eq e n xs ys r)
  | _,_=>none
def iZ (c:ax) (t:TypeId) (cs:List AV) (off:Nat):Option AV:=
 match c.ti t with
 | some i=>gK i cs off
 | none=>none
def bO (c:ax):Nat→TypeId→AV→AV→Option Bool
 | 0,_,_,_=>none
 | d+1,t,x,y=>match c.ti t with
  | none=>none
  | some i=>match x,y with
   | .agg xs,.agg ys=>match i.eq with
    | true=>match i.desc with
     | .struct _=>eqFields (iZ c) (bO c d) xs ys i.fields
     | .array n e=>match c.ti e with
      | some j=>eqItems (iZ c) (bO c d) e j.size xs ys (List.range n)
      | none=>none
     | _=>none
    | false=>none
   | x,y=>lu c i.desc x y
def kF (c:ax) (t:TypeId) (op:BinOp) (x y:AV):Option AV:=
 match x,y with
 | .int k a,.int k' b=>match op with
  | .shl=>lr .shl k a b
  | .shr=>lr .shr k a b
  | op=>if k=k' then kE op k a b else none
 | .str a,.str b=>xh op a b
 | x,y=>match op with
  | .eql=>(bO c 20 t x y).map .bool
  | .neq=>(bO c 20 t x y).map fun b=> .bool (!b)
  | _=>none
def FJ:Operand→Bool
 | .const .nilIface=>true
 | _=>false
def yI (c:ax) (t:TypeId) (op:BinOp) (x:AV):Option AV:=
 match c.ti t with
 | some i=>match i.desc with
  | .interface _=>match op,x with
   | .eql,.gj b=>some (.bool (!b))
   | .neq,.gj b=>some (.bool b)
   | .eql,.lh _ _ _=>some (.bool false)
   | .neq,.lh _ _ _=>some (.bool true)
   | _,_=>none
  | _=>none
 | none=>none
def FK (c:ax) (t:TypeId) (op:BinOp) (q:Operand) (x y:AV):Option AV:=
 match FJ q with
 | true=>yI c t op x
 | false=>kF c t op x y
def Kb (op:UnOp) (x:AV):Option AV:=
 match op,x with
 | .neg,.int k n=>kE .sub k 0 n
 | .xor,.int k n=>kE .xor k (if k.signed then -1 else k.max) n
 | .not,.bool b=>some (.bool (!b))
 | _,_=>none
def byteOf:AV→Option UInt8
 | .int .u8 n=>some (UInt8.ofNat n.toNat)
 | _=>none
def bytesOf:List AV→Option (List UInt8)
 | []=>some []
 | v::r=>match byteOf v,bytesOf r with
  | some c,some l=>some (c::l)
  | _,_=>none
def aj (c:UInt8):AV:= .int .u8 c.toNat
inductive cY where
 | none
 | new (b:ad)
 | ig (k:Nat) (b:ad)
 | move (k:Nat) (b:ad)
 | app (b:ad)
 | all (bs:List ad)
abbrev Out:=Option (AV×cY)
def mn:Nat:=16777216
def bP:Nat:=70368744177664
def ad.at (bs:List ad) (k:Nat):ad:=bs.getD k .dead
def elems (bs:List ad):AV→Option (Nat×List AV)
 | .ah _ sz es=>some (sz,es)
 | .b8 _=>some (0, [])
 | .ay k n=>match ad.at bs k with
  | .sl _ sz es=>if n=es.length then some (sz,es) else none
  | _=>none
 | .fN k n lo hi=>match ad.at bs k with
  | .sl _ sz es=>if n=es.length∧lo≤hi∧hi≤n then some (sz,(es.take hi).drop lo) else none
  | _=>none
 | _=>none
def cR (x:Option AV) (d lim:Nat):Option Nat:=
 match x with
 | .none=>some d
 | some (.int _ i)=>if 0≤i∧i≤(lim:Int) then some i.toNat else .none
 | _=> .none
def rn (agg:Bool) (n:Nat) (cs:List AV):Option AV:=
 if cs.length=n∧al cs=true∧eA cs=true then match agg with
  | true=>some (.agg cs)
  | false=>match cs with
   | [v]=>match v with
    | .agg _=> .none
    | v=>some v
   | _=> .none
 else .none
def ae (cs:List AV) (off:Nat) (v:List AV):List AV:=cs.take off++v++cs.drop (off+v.length)
def sH (place:Nat→Option (Nat×Nat)) (cs:List AV):List (Nat×AV)→Option (List AV)
 | []=>some cs
 | (i,v)::rest=>match place i with
  | .none=> .none
  | some (off,size)=>if v.cells.length=size∧off+size≤cs.length∧eA v.cells=true then sH place (ae cs off v.cells) rest else .none
def kG (es:List AV) (sz:Nat):List (Nat×AV)→Option (List AV)
 | []=>some es
 | (i,v)::rest=>if i<es.length∧v.cells.length=sz∧v.plain=true∧eA v.cells=true then kG (es.set i v) sz rest else .none
def l6 (t:Env) (xs:List Operand):List AV:=xs.map (ev t)
def source (bs:List ad):AV→Option (List AV)
 | .str s=>some (s.map aj)
 | x=>(elems bs x).map (·.2)
def FL:AV→List AV→Option AV
 | x, []=>some x
 | .int k a,.int k' b::rest=>if k=k' then FL (.int k (if b<a then b else a)) rest else .none
 | _,_=> .none
def FM:AV→List AV→Option AV
 | x, []=>some x
 | .int k a,.int k' b::rest=>if k=k' then FM (.int k (if b>a then b else a)) rest else .none
 | _,_=> .none
def oU (d:TypeDesc) (x:AV) (bs:List ad):Out:=
 match d with
 | .string=>match x with
  | .str s=>some (.int .i64 s.length,.none)
  | _=> .none
 | .slice _=>match elems bs x with
  | some (_,es)=>some (.int .i64 es.length,.none)
  | .none=> .none
 | .array n _=>some (.int .i64 n,.none)
 | _=> .none
def mo (i:TI):Bool:=
 match i.zero with
 | some z=>z.length==i.size
 | .none=>false
def eI (i:TI) (el:TypeId) (bs:List ad) (s:AV) (xs:List AV) (id:Nat):Out:=
 match s with
 | .ah (some true) z []=>match xs with
  | []=>some (.ah (some true) z [],.none)
  | xs=>if xs.length*(i.bytes+1)≤bP∧mo i=true then some (.ay id xs.length,.new (.sl ⟨false,some el,none⟩ i.size xs)) else .none
 | .b8 nl=>match xs with
  | []=>some (.b8 nl,.none)
  | xs=>if xs.length*(i.bytes+1)≤bP∧mo i=true then some (.ay id xs.length,.new (.sl ⟨false,some el,none⟩ i.size xs)) else .none
 | .ay k n=>match ad.at bs k with
  | .sl sh sz es=>if n=es.length∧sz=i.size∧sh.ty=some el∧(n+xs.length)*(i.bytes+1)≤bP∧mo i=true then some (.ay k (n+xs.length),.ig k (.sl ⟨sh.out,sh.ty,none⟩ sz (es++xs))) else .none
  | _=> .none
 | .fN k n lo hi=>match ad.at bs k with
  | .sl sh sz es=>if n=es.length∧lo=0∧hi≤n∧xs≠ []∧sz=i.size∧sh.out=false∧sh.ty=some el∧(hi+xs.length)*(i.bytes+1)≤bP∧mo i=true then some (.ay id (hi+xs.length),.move k (.sl ⟨sh.out,sh.ty,none⟩ sz (es.take hi++xs))) else .none
  | _=> .none
 | _=> .none
def gD (c:ax) (bs:List ad) (st xt:TypeId) (s x:AV) (id:Nat):Out:=
 match c.ti st,c.ti xt with
 | some i,some j=>match i.desc with
  | .slice e=>match c.ti e with
   | some k=>match j.desc with
    | .slice _=>match elems bs x with
     | some (sz,xs)=>if sz=k.size∨xs= [] then eI k e bs s xs id else .none
     | .none=> .none
    | .string=>match x with
     | .str l=>if k.size=1 then eI k e bs s (l.map aj) id else .none
     | _=> .none
    | _=> .none
   | .none=> .none
  | _=> .none
 | _,_=> .none
def partOf:AV→Option (Nat×Nat×Nat×Nat)
 | .ay k n=>some (k,n,0,n)
 | .fN k n lo hi=>some (k,n,lo,hi)
 | _=>none
def yJ (i:TI) (el:TypeId) (bs:List ad) (d:AV) (xs:List AV):Out:=
 match partOf d with
 | some (k,n,lo,hi)=>match ad.at bs k with
  | .sl sh sz es=>if n=es.length∧lo≤hi∧hi≤n∧sz=i.size∧sh.out=false∧sh.ty=some el then (if lo=hi then some (.int .i64 0,.none) else some (.int .i64 (xs.take (hi-lo)).length,.ig k (.sl ⟨sh.out,sh.ty,none⟩ sz (ae es lo (xs.take (hi-lo)))))) else .none
  | _=> .none
 | .none=>match d with
  | .b8 _=>some (.int .i64 0,.none)
  | _=> .none
def uy (c:ax) (bs:List ad) (st:TypeId) (d x:AV):Out:=
 match c.ti st with
 | some i=>match i.desc with
  | .slice e=>match c.ti e with
   | some k=>match elems bs x with
    | some (sz,xs)=>if sz=k.size∨xs= [] then yJ k e bs d xs else .none
    | .none=> .none
   | .none=> .none
  | _=> .none
 | .none=> .none
def Al (x:AV) (bs:List ad):Out:=
 match x with
 | .ah (some true) 0 []=>some (.bS,.none)
 | .ay k n=>match ad.at bs k with
  | .sl _ _ es=>if n=es.length then some (.cz k n 0 0,.none) else .none
  | _=> .none
 | _=> .none
def j9:List AV→Option (List UInt8)
 | []=>some []
 | .int .u8 n::r=>if 0≤n∧n<256 then (j9 r).map (UInt8.ofNat n.toNat:: ·) else none
 | _::_=>none
def An (c:ax) (u:TypeId) (x n:AV) (bs:List ad):Out:=
 match x,n with
 | .bS,.int .i64 0=>some (.str [],.none)
 | .cz k m 0 0,.int .i64 n=>match ad.at bs k,c.ti u with
  | .sl sh sz es,some j=>if m=es.length∧n=(m:Int)∧sh.ty=some u∧sz=1∧j.size=1∧m≤bP then (j9 es).map fun s=>(.str s,.ig k (.sl ⟨sh.out,.none,none⟩ sz es)) else .none
  | _,_=> .none
 | _,_=> .none
def er (c:ax) (b:Builtin) (argTypes:List TypeId) (args:List AV) (bs:List ad) (id:Nat):Out:=
 match b with
 | .len=>match argTypes,args with
  | [t], [x]=>match c.ti t with
   | some i=>oU i.desc x bs
   | .none=> .none
  | _,_=> .none
 | .append=>match argTypes,args with
  | [st,xt], [s,x]=>gD c bs st xt s x id
  | _,_=> .none
 | .min=>match args with
  | x::rest=>(FL x rest).map (·,.none)
  | _=> .none
 | .max=>match args with
  | x::rest=>(FM x rest).map (·,.none)
  | _=> .none
 | .unsafeSliceData=>match args with
  | [x]=>Al x bs
  | _=> .none
 | .unsafeString=>match argTypes,args with
  | [t,_], [x,n]=>match c.descOf t with
   | some (.pointer u)=>An c u x n bs
   | _=> .none
  | _,_=> .none
 | .copy=>match argTypes,args with
  | [st,_], [d,x]=>uy c bs st d x
  | _,_=> .none
 | _=> .none
def uz (c a b:AV):Out:=
 match c with
 | .bool true=>some (a,.none)
 | .bool false=>some (b,.none)
 | _=> .none
def uA (i:Option TI) (e:TypeId) (id:Nat):Out:=
 match i with
 | some i=>match i.zero with
  | some z=>some (.ptr id 0,.new (.var e z))
  | .none=> .none
 | .none=> .none
def HF (e:TypeId) (cs:List AV) (id:Nat):Out:=
 match eA cs with
 | true=>some (.ptr id 0,.new (.var e cs))
 | false=> .none
def yK (fs:List (TypeId×Nat×Nat)) (i:Nat):Option (Nat×Nat):=(fs[i]?).map (·.2)
def yL (n i:Nat):Option (Nat×Nat):=some (i*n,n)
def rq (c:ax) (i:Option TI) (parts:List (Nat×AV)):Out:=
 match i with
 | some i=>match i.zero with
  | some z=>match i.desc with
   | .struct _=>(sH (yK i.fields) z parts).map fun cs=>(.agg cs,.none)
   | .array _ e=>match c.ti e with
    | some j=>(sH (yL j.size) z parts).map fun cs=>(.agg cs,.none)
    | .none=> .none
   | _=> .none
  | .none=> .none
 | .none=> .none
mutual
def eJ (bs:List ad):AV→Option AV
 | .ay k n=>match ad.at bs k with
  | .sl _ sz es=>if n=es.length then some (.ah .none sz es) else .none
  | _=> .none
 | .fN k n lo hi=>match ad.at bs k with
  | .sl _ sz es=>if n=es.length∧lo≤hi∧hi≤n then some (.ah .none sz ((es.take hi).drop lo)) else .none
  | _=> .none
 | .agg cs=>match al cs with
  | true=>some (.agg cs)
  | false=>(dq bs cs).map .agg
 | v=>some v
def dq (bs:List ad):List AV→Option (List AV)
 | []=>some []
 | v::r=>match eJ bs v,dq bs r with
  | some a,some l=>some (a::l)
  | _,_=> .none
end
mutual
def AV.leaves:AV→List AV
 | .agg cs=>match al cs with
  | true=> []
  | false=>aV cs
 | v=> [v]
def aV:List AV→List AV
 | []=> []
 | v::r=>v.leaves++aV r
end
def aP (bs:List ad):List AV→List ad
 | []=>bs
 | .ay k _::r=>aP (match ad.at bs k with | .sl sh sz es=>bs.set k (.sl ⟨true,sh.ty,none⟩ sz es) | _=>bs) r
 | .fN k _ _ _::r=>aP (match ad.at bs k with | .sl sh sz es=>bs.set k (.sl ⟨true,sh.ty,none⟩ sz es) | _=>bs) r
 | _::r=>aP bs r
def lx:List AV→Bool
 | []=>false
 | .ay _ _::_=>true
 | .fN _ _ _ _::_=>true
 | _::r=>lx r
def gL (c:ax) (i:Option TI) (len:Nat) (parts:List (Nat×AV)) (id:Nat):Out:=
 match i with
 | some i=>match i.desc with
  | .slice e=>match c.ti e with
   | some j=>match j.zero with
    | some z=>if len=0 then (match parts with | []=>some (.b8 (some false),.none) | _::_=> .none) else if len*j.size≤mn then match rn j.agg j.size z with
      | some ze=>(kG (List.replicate len ze) j.size parts).map fun es=>(.ay id len,.new (.sl ⟨false,some e,none⟩ j.size es))
      | .none=> .none
     else .none
    | .none=> .none
   | .none=> .none
  | _=> .none
 | .none=> .none
def AV.dt:AV→AV
 | .b8 nl=> .ah nl 0 []
 | v=>v
def AV.soft:AV→AV
 | .agg cs=> .agg (cs.map AV.dt)
 | v=>v.dt
def fT (c:ax) (i:Option TI) (len:Nat) (parts:List (Nat×AV)) (id:Nat) (bs:List ad):Out:=
 match al (parts.map (·.2)) with
 | true=>gL c i len parts id
 | false=>match dq bs (parts.map (·.2)),bs[id]? with
  | some l,some .dead=>match al l,gL c i len ((parts.map (·.1)).zip l) id with
   | true,some (v,.new b)=>some (v,.all ((aP bs (aV (parts.map (·.2)))).set id b))
   | _,_=> .none
  | _,_=> .none
def eK (c:ax) (i:Option TI) (len:Nat) (parts:List (Nat×AV)) (id:Nat) (bs:List ad):Out:=
 fT c i len (parts.map fun p=>(p.1,p.2.soft)) id bs
def linked (sh:Hd) (j:Nat) (i:TI) (cs:List AV):List AV:=
 match sh.link with
 | some (i',j',k',n)=>match i.agg with
  | false=>if i'=j then cs.set j' (.ay k' n) else cs
  | true=>cs
 | none=>cs
def mq (i:Option TI) (a:AV) (bs:List ad):Out:=
 match i with
 | some i=>match a with
  | .ptr k off=>match ad.at bs k with
   | .var _ cs=>(gK i cs off).map (·,.none)
   | _=> .none
  | .cz k n j off=>match ad.at bs k with
   | .sl sh _ es=>if n=es.length then match es[j]? with
     | some e=>(gK i (linked sh j i e.cells) off).map (·,.none)
     | .none=> .none
    else .none
   | _=> .none
  | .dd cs=>(gK i cs 0).map (·,.none)
  | _=> .none
 | .none=> .none
def cP (e:AV) (off:Nat) (v:List AV):Option AV:=
 match e with
 | .agg cs=>if off+v.length≤cs.length∧al v=true then some (.agg (ae cs off v)) else .none
 | _=>match off,v with
  | 0, [c]=>if c.plain=true then (match c with | .agg _=> .none | c=>some c) else .none
  | _,_=> .none
def HG:List AV→Option (Nat×Nat)
 | [.ay k m]=>some (k,m)
 | _=>none
def iL (bs:List ad) (k k' m j off:Nat) (sh:Hd) (sz:Nat) (es:List AV) (e:AV):Out:=
 match eJ bs (.ay k' m),decide (k'=k) with
 | some l,false=>(cP e off [l]).map fun e'=>(.aT [],.all ((aP bs [.ay k' m]).set k (.sl ⟨sh.out,sh.ty,some (j,off,k',m)⟩ sz (es.set j e'))))
 | _,_=> .none
theorem ka {bs:List ad} {k k' m j off:Nat} {sh:Hd} {sz:Nat} {es:List AV} {x r:AV} {e:cY} (h:iL bs k k' m j off sh sz es x=some (r,e)): ∃b,e= .all b:=by
 unfold iL at h;split at h
 ·rename_i l _ _;cases hst:cP x off [l] with
  | none=>rw [hst] at h;cases h
  | some y=>rw [hst] at h;cases h;exact ⟨_,rfl⟩
 ·cases h
def mr (i:Option TI) (a:AV) (v:List AV) (bs:List ad):Out:=
 match i with
 | some i=>if v.length=i.size∧eA v=true then match a with
   | .ptr k off=>match ad.at bs k with
    | .var ty cs=>if off+v.length≤cs.length then some (.aT [],.ig k (.var ty (ae cs off v))) else .none
    | _=> .none
   | .cz k n j off=>match ad.at bs k with
    | .sl sh sz es=>if n=es.length∧sh.out=false∧sh.ty.isSome=true then match es[j]? with
      | some e=>match HG v with
       | some (k',m)=>iL bs k k' m j off sh sz es e
       | .none=>(cP e off v).map fun e'=>(.aT [],.ig k (.sl ⟨sh.out,sh.ty,none⟩ sz (es.set j e')))
      | .none=> .none
     else .none
    | _=> .none
   | _=> .none
  else .none
 | .none=> .none
def gq:AV→Bool
 | .int _ _ | .bool _ | .str _=>true
 | _=>false
def gJ:AV→Bool
 | .agg cs=>cs.all gq
 | v=>gq v
def iX:AV→AV→Bool
 | .int k a,.int k' b=>decide (k=k')&&a==b
 | .bool a,.bool b=>a==b
 | .str a,.str b=>a==b
 | _,_=>false
def kH:List AV→List AV→Bool
 | [], []=>true
 | a::r,b::s=>iX a b&&kH r s
 | _,_=>false
def sameKey:AV→AV→Bool
 | .agg a,.agg b=>kH a b
 | a,b=>iX a b
def iM (part:TypeId→List AV→Nat→Option AV) (fine:TypeId→AV→Bool) (cs:List AV):List (TypeId×Nat×Nat)→Bool
 | []=>true
 | (t,off,_)::r=>match part t cs off with
  | some a=>fine t a&&iM part fine cs r
  | none=>false
def pS (part:TypeId→List AV→Nat→Option AV) (fine:TypeId→AV→Bool) (e:TypeId) (n:Nat) (cs:List AV):List Nat→Bool
 | []=>true
 | i::r=>match part e cs (i*n) with
  | some a=>fine e a&&pS part fine e n cs r
  | none=>false
def cN (c:ax):Nat→TypeId→AV→Bool
 | 0,_,_=>false
 | d+1,t,x=>match c.ti t with
  | some i=>match i.desc with
   | .struct _=>match x with
    | .agg cs=>iM (iZ c) (cN c d) cs i.fields
    | _=>false
   | .array n e=>match x,c.ti e with
    | .agg cs,some j=>pS (iZ c) (cN c d) e j.size cs (List.range n)
    | _,_=>false
   | .interface _=>false
   | _=>true
  | none=>false
def jC (eq:AV→AV→Option Bool) (k:AV):List (AV×AV×Nat)→Nat→Option (Option (Nat×AV×AV×Nat))
 | [],_=>some none
 | e::r,i=>match eq k e.1 with
  | some true=>some (some (i,e))
  | some false=>jC eq k r (i+1)
  | none=>none
def pR (i:TI):Option AV:=
 match i.zero with
 | some z=>match i.agg with
  | true=>some (.agg z)
  | false=>match z with
   | [x]=>some x
   | _=>none
 | none=>none
def fR (x:AV) (bs:List ad):Option (List (AV×AV×Nat)):=
 match x with
 | .gX=>some []
 | .cF k=>match ad.at bs k with
  | .mp es _=>some es
  | _=>none
 | _=>none
def rj (ok:Bool) (v:AV) (b:Bool):AV:=
 match ok with
 | true=> .aT [v,.bool b]
 | false=>v
def dW (c:ax) (i:Option TI) (x k:AV) (ok:Bool) (bs:List ad):Out:=
 match i with
 | some i=>match i.desc with
  | .map kt el=>match fR x bs with
   | some es=>match cN c 8 kt k with
    | true=>match jC (bO c 20 kt) k es 0 with
     | some (some (_,e))=>some (rj ok e.2.1 true,.none)
     | some .none=>match c.ti el with
      | some j=>(pR j).map fun z=>(rj ok z false,.none)
      | .none=> .none
     | .none=> .none
    | false=> .none
   | .none=> .none
  | _=> .none
 | .none=> .none
def ij:AV→Bool
 | .ay _ _=>true
 | .any=>true
 | x=>x.plain
def aX (c:ax) (i:Option TI) (m k x:AV) (bs:List ad):Out:=
 match i with
 | some i=>match i.desc with
  | .map kt _=>match m with
   | .cF b=>match ad.at bs b with
    | .mp es clock=>match cN c 8 kt k&&gJ k&&ij x with
     | true=>match jC (bO c 20 kt) k es 0 with
      | some (some (j,e))=>match sameKey e.1 k with
       | true=>some (.aT [],.ig b (.mp (es.set j (k,x,e.2.2)) clock))
       | false=> .none
      | some .none=>some (.aT [],.ig b (.mp (es++ [(k,x,clock)]) (clock+1)))
      | .none=> .none
     | false=> .none
    | _=> .none
   | _=> .none
  | _=> .none
 | .none=> .none
def iN (c:ax) (i:Option TI) (m k:AV) (bs:List ad):Out:=
 match i with
 | some i=>match i.desc with
  | .map kt el=>match m with
   | .cF b=>match ad.at bs b with
    | .mp es clock=>match cN c 8 kt k&&gJ k with
     | true=>match jC (bO c 20 kt) k es 0 with
      | some (some (_,e))=>match sameKey e.1 k with
       | true=>some (.aT [e.2.1,.int .i64 e.2.2],.ig b (.mp es clock))
       | false=> .none
      | some .none=>match c.ti el with
       | some j=>match pR j with
        | some z=>match z.plain with
         | true=>some (.aT [z,.int .i64 clock],.ig b (.mp (es++ [(k,z,clock)]) (clock+1)))
         | false=> .none
        | .none=> .none
       | .none=> .none
      | .none=> .none
     | false=> .none
    | _=> .none
   | _=> .none
  | _=> .none
 | .none=> .none
def sI (n:Int):List (AV×AV×Nat)→Nat→Option (Nat×AV×AV×Nat)
 | [],_=>none
 | e::r,i=>if (e.2.2:Int)=n then some (i,e) else sI n r (i+1)
def fD (m s x:AV) (bs:List ad):Out:=
 match m,s with
 | .cF b,.int _ n=>match ad.at bs b with
  | .mp es clock=>match ij x with
   | true=>match sI n es 0 with
    | some (j,e)=>some (.aT [],.ig b (.mp (es.set j (e.1,x,e.2.2)) clock))
    | .none=> .none
   | false=> .none
  | _=> .none
 | _,_=> .none
def mv (x:AV) (bs:List ad):Out:=
 match x with
 | .kD k=>match ad.at bs k with
  | .iter (.map m seen clock)=>match seen.getLast?,ad.at bs m with
   | some n,.mp es clock'=>if clock'=clock then (match sI n es 0 with
     | some (_,e)=>some (.aT [e.1,e.2.1],.none)
     | .none=> .none) else .none
   | _,_=> .none
  | _=> .none
 | _=> .none
def kC (r:Option AV) (i:Option TI) (id:Nat):Out:=
 match i with
 | some i=>match i.desc with
  | .map _ _=>match r with
   | .none=>some (.cF id,.new (.mp [] 0))
   | some (.int _ _)=>some (.cF id,.new (.mp [] 0))
   | _=> .none
  | _=> .none
 | .none=> .none
def ly (i:Option TI) (x:AV) (bs:List ad) (id:Nat):Out:=
 match i with
 | some i=>match i.desc,x with
  | .string,.str s=>some (.kD id,.new (.iter (.str s 0)))
  | .map _ _,.cF m=>match ad.at bs m with
   | .mp _ clock=>match decide (m<id) with
    | true=>some (.kD id,.new (.iter (.map m [] clock)))
    | false=> .none
   | _=> .none
  | _,_=> .none
 | .none=> .none
def lA (s:List UInt8) (pos:Nat):Nat×Nat:=Utf8.decode ⟨s.toArray⟩ pos
def uB (x:AV) (str:Bool) (bs:List ad):Out:=
 match x,str with
 | .kD k,true=>match ad.at bs k with
  | .iter (.str s pos)=>match decide (pos<s.length) with
   | true=>some (.aT [.bool true,.int .i64 pos,.int .i32 (lA s pos).1],.ig k (.iter (.str s (pos+(lA s pos).2))))
   | false=>some (.aT [.bool false],.ig k (.iter (.str s pos)))
  | _=> .none
 | _,_=> .none
def gu (x:AV):Out:=
 match x with
 | .ptr k off=>some (.ptr k off,.none)
 | .dd cs=>some (.dd cs,.none)
 | .fn f a b=>some (.fn f a b,.none)
 | _=> .none
def uC (c:ax) (t:TypeId) (x:AV):Out:=
 match c.ti t with
 | some i=>match i.desc,x with
  | .int _,.int k n=>some (.lh t k n,.none)
  | _,_=> .none
 | .none=> .none
def dI (c:ax) (src dst:Option TI) (x:AV) (bs:List ad) (id:Nat):Out:=
 match src,dst with
 | some s,some d=>match d.desc,x with
  | .unsafePointer,.ptr k off=>match s.desc,ad.at bs k with
   | .pointer t,.var _ cs=>match c.ti t with
    | some j=>if j.size≠0∧off<cs.length then some (.ptr k off,.none) else .none
    | .none=> .none
   | _,_=> .none
  | .pointer u,.ptr k 0=>match s.desc,ad.at bs k with
   | .unsafePointer,.var ty cs=>match c.ti u with
    | some j=>if ty=u∧j.size=cs.length∧j.size≠0 then some (.ptr k 0,.none) else .none
    | .none=> .none
   | _,_=> .none
  | .int k,.int _ n=>some (.int k (k.wrap n),.none)
  | .string,.str s=>some (.str s,.none)
  | .string,.int _ n=>some (.str (Utf8.encode n).data.toList,.none)
  | .slice e,.str l=>match s.desc,c.descOf e with
   | .string,some (.int .u8)=>if l= [] then some (.ah (some false) 1 [],.none) else if l.length≤bP then some (.ay id l.length,.new (.sl ⟨false,some e,none⟩ 1 (l.map aj))) else .none
   | _,_=> .none
  | .string,x=>match s.desc with
   | .slice e=>match c.descOf e,elems bs x with
    | some (.int .u8),some (_,es)=>(bytesOf es).map fun s=>(.str s,.none)
    | _,_=> .none
   | _=> .none
  | _,_=> .none
 | _,_=> .none
def ja (c:ax) (i:Option TI) (l m:AV) (id:Nat):Out:=
 match i,l,m with
 | some i,.int _ l,.int _ m=>match i.desc with
  | .slice e=>match c.ti e with
   | some j=>match j.zero with
    | some z=>if 0≤l∧l≤m∧m*(j.bytes+1)≤(bP:Int) then match rn j.agg j.size z with
      | some ze=>if m=0 then some (.b8 (some false),.none) else some (.ay id l.toNat,.new (.sl ⟨false,some e,none⟩ j.size (List.replicate l.toNat ze)))
      | .none=> .none
     else .none
    | .none=> .none
   | .none=> .none
  | _=> .none
 | _,_,_=> .none
def rA (i:Option TI) (sz:Nat) (es:List AV):Bool:=
 match i with
 | some i=>sz==i.size || es.isEmpty
 | .none=>false
def dz (c:ax) (d:TypeDesc) (x:AV) (lo hi:Option AV) (bs:List ad):Out:=
 match d,x with
 | .string,.str s=>match cR hi s.length s.length with
  | some h=>(cR lo 0 h).map fun l=>(.str ((s.take h).drop l),.none)
  | .none=> .none
 | .slice el,.ah nl sz es=>match rA (c.ti el) sz es with
  | true=>match cR hi es.length es.length with
   | some h=>(cR lo 0 h).map fun l=>(.ah nl sz ((es.take h).drop l),.none)
   | .none=> .none
  | false=> .none
 | .slice el,.ay k n=>match ad.at bs k with
  | .sl sh sz es=>if n=es.length∧rA (c.ti el) sz es=true then match cR hi es.length es.length with
    | some h=>(cR lo 0 h).map fun l=>match c.cut with
     | true=>if l=0∧h=n then (.ay k n,.none) else (.fN k n l h,.none)
     | false=>(.ah .none sz ((es.take h).drop l),match sh.out,sh.link with | true,.none=> .none | _,_=> .ig k (.sl ⟨true,sh.ty,none⟩ sz es))
    | .none=> .none
   else .none
  | _=> .none
 | .slice el,.fN k n a z=>match ad.at bs k with
  | .sl _ sz es=>if n=es.length∧a≤z∧z≤n∧rA (c.ti el) sz es=true then match cR hi (z-a) (z-a) with
    | some h=>(cR lo 0 h).map fun l=>(.fN k n (a+l) (a+h),.none)
    | .none=> .none
   else .none
  | _=> .none
 | _,_=> .none
def isZero:Option AV→Bool
 | some (.int _ n)=>n==0
 | .none=>false
 | _=>false
def jG (c:ax) (d:TypeDesc) (x:AV) (lo hi mx:Option AV) (bs:List ad):Out:=
 match d with
 | .slice el=>match elems bs x,c.ti el with
  | some _,some _=>if (lo.isNone || isZero lo)&&isZero hi&&isZero mx then some (.b8 none,.none) else .none
  | _,_=> .none
 | _=> .none
def sJ (x:AV) (o:Nat) (bs:List ad):Out:=
 match x with
 | .ptr k off=>some (.ptr k (off+o),.none)
 | .cz k n i off=>match ad.at bs k with
  | .sl _ _ es=>if n=es.length∧i<n then some (.cz k n i (off+o),.none) else .none
  | _=> .none
 | .dd cs=>some (.dd (cs.drop o),.none)
 | _=> .none
def ea (i:Option TI) (x:AV) (f:Nat) (bs:List ad):Out:=
 match i with
 | some i=>match i.desc with
  | .struct _=>match i.fields[f]? with
   | some (_,o,n)=>match n with
    | 0=> .none
    | _+1=>sJ x o bs
   | .none=> .none
  | _=> .none
 | .none=> .none
def oV (c:ax) (i:Option TI) (x:AV) (f:Nat):Out:=
 match i,x with
 | some i,.agg cs=>match i.desc with
  | .struct _=>match i.fields[f]? with
   | some (ty,o,_)=>(iZ c ty cs o).map (·,.none)
   | .none=> .none
  | _=> .none
 | _,_=> .none
def eb (c:ax) (i:Option TI) (x:AV) (ix:AV) (bs:List ad):Out:=
 match i,ix with
 | some i,.int _ n=>match i.desc with
  | .array len e=>if 0≤n∧n<(len:Int) then match c.ti e with
    | some j=>sJ x (n.toNat*j.size) bs
    | .none=> .none
   else .none
  | .slice e=>match c.ti e with
   | some j=>match x with
    | .ah _ sz es=>if 0≤n∧sz=j.size then match es[n.toNat]? with
      | some v=>some (.dd v.cells,.none)
      | .none=> .none
     else .none
    | .ay k m=>match ad.at bs k with
     | .sl _ sz es=>if 0≤n∧m=es.length∧n<(m:Int)∧sz=j.size then some (.cz k m n.toNat 0,.none) else .none
     | _=> .none
    | .fN k m lo hi=>match ad.at bs k with
     | .sl _ sz es=>if 0≤n∧m=es.length∧hi≤m∧(lo:Int)+n<(hi:Int)∧sz=j.size then some (.cz k m (lo+n.toNat) 0,.none) else .none
     | _=> .none
    | _=> .none
   | .none=> .none
  | _=> .none
 | _,_=> .none
def oW (c:ax) (i:Option TI) (x:AV) (ix:AV):Out:=
 match i,ix with
 | some i,.int _ n=>match i.desc,x with
  | .string,.str s=>if 0≤n then match s[n.toNat]? with
    | some c=>some (.int .u8 c.toNat,.none)
    | .none=> .none
   else .none
  | .array len e,.agg cs=>if 0≤n∧n<(len:Int) then match c.ti e with
    | some j=>(gK j cs (n.toNat*j.size)).map (·,.none)
    | .none=> .none
   else .none
  | _,_=> .none
 | _,_=> .none
def jb (x:AV) (i:Nat):Out:=
 match x with
 | .aT vs=>(vs[i]?).map (·,.none)
 | _=> .none
def fw (c:ax) (op:Op) (t:Env) (bs:List ad) (id:Nat):Out:=
 match op with
 | .move x | .assign x=>some (ev t x,.none)
 | .pick x a b=>uz (ev t x) (ev t a) (ev t b)
 | .alloc e=>uA (c.ti e) e id
 | .box e x=>HF e (ev t x).cells id
 | .build ty parts=>rq c (c.ti ty) (parts.toList.map fun p=>(p.1,ev t p.2))
 | .buildSlice ty len parts=>eK c (c.ti ty) len (parts.toList.map fun p=>(p.1,ev t p.2)) id bs
 | .load ty a=>mq (c.ti ty) (ev t a) bs
 | .store ty a x=>mr (c.ti ty) (ev t a) (ev t x).cells bs
 | .nilCheck x=>gu (ev t x)
 | .makeInterface ty x=>uC c ty (ev t x)
 | .binOp op ty x y _=>(FK c ty op y (ev t x) (ev t y)).map (·,.none)
 | .unOp op _ x=>(Kb op (ev t x)).map (·,.none)
 | .convert src dst x=>dI c (c.ti src) (c.ti dst) (ev t x) bs id
 | .makeFunc (.func f) first caps=>some (.fn f (l6 t first.toList) (l6 t caps.toList),.none)
 | .makeSlice ty l m=>ja c (c.ti ty) (ev t l) (ev t m) id
 | .slice ty x lo hi mx=>match c.ti ty with
  | some i=>match mx with
   | .none=>dz c i.desc (ev t x) (lo.map (ev t)) (hi.map (ev t)) bs
   | some m=>jG c i.desc (ev t x) (lo.map (ev t)) (hi.map (ev t)) (some (ev t m)) bs
  | .none=> .none
 | .fieldAddr sty x f=>ea (c.ti sty) (ev t x) f bs
 | .field sty x f=>oV c (c.ti sty) (ev t x) f
 | .indexAddr ty x ix=>eb c (c.ti ty) (ev t x) (ev t ix) bs
 | .index ty x ix=>oW c (c.ti ty) (ev t x) (ev t ix)
 | .extract x i=>jb (ev t x) i
 | .makeMap ty r=>kC (r.map (ev t)) (c.ti ty) id
 | .range ty x=>ly (c.ti ty) (ev t x) bs id
 | .next x str=>uB (ev t x) str bs
 | .lookup ty x k ok=>dW c (c.ti ty) (ev t x) (ev t k) ok bs
 | .mapUpdate ty m k x=>aX c (c.ti ty) (ev t m) (ev t k) (ev t x) bs
 | .insert ty m k x=>aX c (c.ti ty) (ev t m) (ev t k) (ev t x) bs
 | .mapEntry ty m k=>iN c (c.ti ty) (ev t m) (ev t k) bs
 | .entryStore _ m s x=>fD (ev t m) (ev t s) (ev t x) bs
 | .entry x=>mv (ev t x) bs
 | .call k=>match k.callee with
  | .builtin b=>er c b k.argTypes.toList (l6 t k.args.toList) bs id
  | _=> .none
 | _=> .none
def asks:Op→Bool
 | .alloc _ | .box _ _ | .buildSlice _ _ _ | .makeSlice _ _ _ | .convert _ _ _ | .makeMap _ _ | .range _ _=>true
 | .call k=>match k.callee with
  | .builtin .append=>true
  | _=>false
 | _=>false
def bL (ops:Array Oper) (t:Env) (g:Option (Nat×Bool)):Option Bool:=
 match g with
 | .none=>some true
 | some (j,want)=>match (ops[j]?).bind (·.dst) with
  | .none=>some false
  | some d=>match t.get .any d with
   | .bool b=>some (b==want)
   | .aT _=>some false
   | _=> .none
def bu (t:Env) (d:Option Tmp) (v:AV):Env:=
 match d with
 | some i=>t.set i v
 | .none=>t
def cY.on (e:cY) (bs:List ad) (id:Nat):Option (List ad):=
 match e with
 | .none=>some bs
 | .new b=>match bs[id]? with
  | some .dead=>some (bs.set id b)
  | _=> .none
 | .ig k b=>some (bs.set k b)
 | .move k b=>match bs[id]? with
  | some .dead=>some ((bs.set k .gone).set id b)
  | _=> .none
 | .app b=>some (bs++ [b])
 | .all bs'=>some bs'
inductive R4 where
 | fn (f:FuncId)
 | fL (k:Nat) (s:Site) (env:List AV)
abbrev aL:=R4→List AV→List ad→Option (AV×List ad)
def oX (v:AV):ad→Bool
 | .sl sh _ es=>sh.out || v.apart (es.flatMap AV.cells)
 | _=>false
def dJ (v:AV) (bs:List ad):List AV→Bool
 | []=>true
 | .ay k _::r=>oX v (ad.at bs k)&&dJ v bs r
 | .fN k _ _ _::r=>oX v (ad.at bs k)&&dJ v bs r
 | _::r=>dJ v bs r
def cX (k:Bool) (v:AV) (args:List AV) (bs:List ad):Out:=
 match v.flat || !lx args || (k&&dJ v bs args) with
 | true=>some (v,.none)
 | false=>some (v,.all (aP bs args))
def yM (v:AV) (b:List ad):Option (Nat×Hd×Nat×List AV):=
 match v with
 | .ay k n=>match ad.at b k with
  | .sl sh sz es=>match sh.link with
   | none=>some (n,sh,sz,es)
   | some _=>none
  | _=>none
 | _=>none
theorem FO {v:AV} {b:List ad} {n:Nat} {sh:Hd} {sz:Nat} {es:List AV} (h:yM v b=some (n,sh,sz,es)): ∃k,v= .ay k n∧ad.at b k= .sl sh sz es∧sh.link=none:=by
 unfold yM at h;split at h
 ·split at h
  ·rename_i hb;split at h
   ·rename_i hl;cases h;exact ⟨_,rfl,hb,hl⟩
   ·cases h
  ·cases h
 ·cases h
def xi (c:ax) (cf:aL) (f:FuncId) (args:List AV) (bs:List ad):Out:=
 match dq bs args with
 | some l=>match al l with
  | true=>match c.ov f with
   | some g=>match g l with
    | some v=>if v.plain=true then cX (c.EG f) v (aV args) bs else .none
    | .none=> .none
   | .none=>match cf (.fn f) l [] with
    | some (v, [])=>if v.plain=true then cX (c.EG f) v (aV args) bs else .none
    | some (v,x::r)=>match yM v (x::r) with
     | some (n,sh,sz,es)=>match lx (aV args) with
      | true=>some (.ay bs.length n,.all (aP bs (aV args)++ [.sl sh sz es]))
      | false=>some (.ay bs.length n,.app (.sl sh sz es))
     | .none=>match cf (.fn f) args bs with
      | some (v,bs')=>some (v,.all bs')
      | .none=> .none
    | .none=> .none
  | false=>match cf (.fn f) args bs with
   | some (v,bs')=>some (v,.all bs')
   | .none=> .none
 | .none=> .none
def pT (c:ax) (cf:aL) (f:FuncId) (args:List AV) (bs:List ad):Out:=
 match c.iV f with
 | true=>match cf (.fn f) args bs with
  | some (v,bs')=>some (v,.all bs')
  | .none=> .none
 | false=>xi c cf f args bs
def ou (c:ax) (cf:aL) (f:FuncId) (args:List AV) (bs:List ad):Out:=
 match c.CU f with
 | some g=>match g args bs with
  | some (v,bs')=>some (v,.all bs')
  | .none=> .none
 | .none=>pT c cf f args bs
def bV (c:ax) (cf:aL) (op:Op) (t:Env) (bs:List ad) (id:Nat):Out:=
 match op with
 | .call k=>match k.callee with
  | .value f=>match ev t f with
   | .fn g first caps=>match c.ext g with
    | some G=>match G (first++l6 t k.args.toList++caps) with
     | some v=>some (v,.none)
     | .none=> .none
    | .none=>ou c cf g (first++l6 t k.args.toList++caps) bs
   | .fL l s env=>match cf (.fL l s env) (l6 t k.args.toList) bs with
    | some (v,bs')=>some (v,.all bs')
    | .none=> .none
   | _=> .none
  | _=>fw c (.call k) t bs id
 | op=>fw c op t bs id
def next (id:Nat) (op:Op):Nat:=match asks op with
 | true=>id+1
 | false=>id
def oY (c:ax) (cf:aL) (ops:Array Oper):List Oper→Nat→Env→List ad→Option St
 | [],_,t,bs=>some {t:=t,b:=bs}
 | o::rest,id,t,bs=>
  match bL ops t o.guard with
  | some true=>match bV c cf o.op t bs id with
   | some (v,e)=>match e.on bs id with
    | some bs'=>oY c cf ops rest (next id o.op) (bu t o.dst v) bs'
    | .none=> .none
   | .none=> .none
  | some false=>oY c cf ops rest (next id o.op) (bu t o.dst (.aT [])) bs
  | .none=> .none
def cG:List Oper→Nat
 | []=>0
 | o::r=>(match asks o.op with | true=>1 | false=>0)+cG r
mutual
def AV.under (n:Nat):AV→Bool
 | .ptr k _ | .cz k _ _ _ | .ay k _ | .fN k _ _ _ | .cF k | .kD k=>decide (k<n)
 | .agg cs=>aw n cs
 | .aT cs=>aw n cs
 | .fn _ a b=>aw n a&&aw n b
 | .fL k _ env=>decide (k<n)&&aw n env
 | _=>true
def aw (n:Nat):List AV→Bool
 | []=>true
 | v::r=>v.under n&&aw n r
end
def forget (n:Nat) (v:AV):AV:=match v.under n with
 | true=>v
 | false=> .any
def eu (n:Nat) (e:AV×AV×Nat):AV×AV×Nat:=(e.1,forget n e.2.1,e.2.2)
def eL (n:Nat) (sh:Hd):Hd:=
 match sh.link with
 | some (_,_,k,_)=>if k<n then sh else ⟨sh.out,sh.ty,none⟩
 | none=>sh
def bG (n:Nat):ad→ad
 | .var ty cs=> .var ty (cs.map (forget n))
 | .sl sh sz es=> .sl (eL n sh) sz es
 | .mp es clock=> .mp (es.map (eu n)) clock
 | b=>b
def St.cut (s:St) (n:Nat):St:=
 match decide (s.b.length≤n) with
 | true=>s
 | false=>{t:=s.t.map (forget n),b:=(s.b.take n).map (bG n)}
mutual
def AV.hand (n:Nat) (bs:List ad):AV→Option AV
 | .ay k m=>if k<n then some (.ay k m) else match ad.at bs k with
  | .sl _ sz es=>if m=es.length then some (.ah .none sz es) else .none
  | _=> .none
 | .fN k m lo hi=>if k<n then some (.fN k m lo hi) else match ad.at bs k with
  | .sl _ sz es=>if m=es.length∧lo≤hi∧hi≤m then some (.ah .none sz ((es.take hi).drop lo)) else .none
  | _=> .none
 | .agg cs=>(jH n bs cs).map .agg
 | .aT cs=>(jH n bs cs).map .aT
 | .b8 nl=>some (.ah nl 0 [])
 | v=>some v
def jH (n:Nat) (bs:List ad):List AV→Option (List AV)
 | []=>some []
 | v::r=>match v.hand n bs,jH n bs r with
  | some a,some l=>some (a::l)
  | _,_=> .none
end
def tS (c:ax) (t:Env) (bs:List ad):ResultVar→Option AV
 | .tmp i=>some (t.get .any i)
 | .cell a ty=>match t.get .any a with
  | .ptr k off=>match ad.at bs k,c.ti ty with
   | .var _ cs,some i=>gK i cs off
   | _,_=> .none
  | _=> .none
def gM (c:ax) (t:Env) (bs:List ad):List ResultVar→Option (List AV)
 | []=>some []
 | r::l=>match tS c t bs r,gM c t bs l with
  | some a,some b=>some (a::b)
  | _,_=> .none
def Ao:List AV→AV
 | [v]=>v
 | l=> .aT l
def handOver (n:Nat) (s:St) (v:AV):Option (AV×List ad):=
 match v.hand n s.b with
 | some v'=>match v'.under n with
  | true=>some (v',((s.cut n).b))
  | false=>some (v,s.b)
 | .none=> .none
def fU:Env→Nat→List AV→Env
 | t,_, []=>t
 | t,i,v::r=>fU (t.set i v) (i+1) r
def start (n:Nat) (args:List AV):Env:=fU (Tr.mk .any 24 n) 0 args
def yN (m:List Nat) (o:Oper):Nat:=
 o.after.toList.foldl (fun s e=>match Region.binds .any e with | true=>s ||| (2^e.on ||| m.getD e.on 0) | false=>s) 0
def Ap:List Oper→List Nat→List Nat
 | [],m=>m
 | o::r,m=>Ap r (m++ [yN m o])
def fM (ops:Array Oper):List Nat:=Ap ops.toList []
def ordered (b:List Nat) (i j:Nat):Bool:=(b.getD j 0).testBit i
def cQ:List Oper→Nat→Bool
 | [],_=>true
 | o::r,k=>(o.after.toList.all fun e=> !Region.binds .any e || decide (e.on<k))&&cQ r (k+1)
def R5:Op→Bool
 | .select _ _=>false
 | _=>true
def pU (ops:Array Oper) (b:List Nat) (o:Oper) (i:Nat):List Oper→Nat→Bool
 | [],_=>true
 | p::r,j=>(ordered b i j || o.apart ops p)&&pU ops b o i r (j+1)
def mw (ops:Array Oper) (b:List Nat):List Oper→Nat→Bool
 | [],_=>true
 | o::r,i=>R5 o.op&&pU ops b o i r (i+1)&&mw ops b r (i+1)
def rB (ops:Array Oper):Bool:=cQ ops.toList 0&&mw ops (fM ops) ops.toList 0
def blind:Op→Bool
 | .move _ | .assign _ | .pick _ _ _ | .build _ _ | .binOp _ _ _ _ _ | .unOp _ _ _ | .index _ _ _ | .field _ _ _ | .extract _ _ | .nilCheck _=>true
 | _=>false
def nz (ops:Array Oper) (j:Nat):Bool:=
 match ops[j]? with
 | some o=>blind o.op
 | none=>true
def yO (ops:Array Oper) (b:List Nat) (i:Nat):Nat→Bool
 | 0=>true
 | j+1=>(j==i || ordered b i j || ordered b j i || nz ops j)&&yO ops b i j
def alone (ops:Array Oper) (i:Nat):Bool:=yO ops (fM ops) i ops.size
def cv:List Oper→Nat→Nat→Nat
 | _,0,base=>base
 | [],_+1,base=>base
 | o::r,i+1,base=>cv r i (next base o.op)
def cZ (b:List Nat) (i:Nat):List Oper→Nat→Nat→List Nat
 | [],_,_=> []
 | o::r,j,id=>match asks o.op&& !ordered b j i with
  | true=>id::cZ b i r (j+1) (next id o.op)
  | false=>cZ b i r (j+1) (next id o.op)
def aY:List Nat→List ad→List ad
 | [],bs=>bs
 | k::r,bs=>aY r (bs.set k .dead)
def dA (ops:Array Oper) (base i:Nat) (bs:List ad):List ad:=aY (cZ (fM ops) i ops.toList 0 base) bs
def cC:Op→Bool
 | .store _ _ _=>true
 | _=>false
def fc:Op→Bool
 | .call ⟨.builtin .append,_,_⟩=>true
 | .slice _ _ _ _ .none=>true
 | _=>false
def sK (op:Op):ad→Bool
 | .var _ _=>cC op
 | .sl _ _ _=>fc op
 | _=>false
def c9:Op→Option Nat
 | .load _ (.tmp p)=>some p
 | .slice _ (.tmp p) _ _ .none=>some p
 | _=>none
def isLen:Op→Bool
 | .call ⟨.builtin .len,_,_⟩=>true
 | _=>false
def rC (o:Op):List Nat:=o.operands.toList.filterMap fun | .tmp i=>some i | _=>none
def lB (ops:Array Oper) (j q:Nat):List Oper→Nat→Bool
 | [],_=>true
 | o::r,k=>(o.dst !=some q || k==j || ordered (fM ops) j k || ordered (fM ops) k j)&&lB ops j q r (k+1)
def fV (ops:Array Oper) (j p:Nat):Option Nat:=
 match ops.toList.filter fun o=>o.dst==some p with
 | []=>some p
 | [o]=>match o.op with
  | .move (.tmp q)=>match lB ops j q ops.toList 0 with
   | true=>some q
   | false=>none
  | _=>none
 | _=>none
def fi (ops:Array Oper) (j:Nat) (op:Op):Option Nat:=
 match c9 op with
 | some p=>fV ops j p
 | none=>none
def my (ops:Array Oper) (b:List Nat) (i:Nat):List Oper→Nat→List Nat
 | [],_=> []
 | o::r,j=>match j==i || ordered b i j || ordered b j i,fi ops j o.op with
  | false,some p=>p::my ops b i r (j+1)
  | _,_=>my ops b i r (j+1)
def gN (ops:Array Oper) (i:Nat):List Nat:=my ops (fM ops) i ops.toList 0
def gY (ops:Array Oper) (j:Nat) (op o:Op):Bool:=blind o || (isLen o&&cC op) || (match fi ops j o with | some q=> !(rC op).contains q | none=>false)
def pV (ops:Array Oper) (b:List Nat) (i:Nat) (op:Op):List Oper→Nat→Bool
 | [],_=>true
 | o::r,j=>(j==i || ordered b i j || ordered b j i || gY ops j op o.op)&&pV ops b i op r (j+1)
def bM (ops:Array Oper) (i:Nat) (op:Op):Bool:=
 (cC op || fc op)&&pV ops (fM ops) i op ops.toList 0&&(gN ops i).all fun p=>lB ops i p ops.toList 0
def xj:AV→Option (Option Nat)
 | .ptr k _=>some (some k)
 | .cz k _ _ _=>some (some k)
 | .ay _ _=>some .none
 | .fN _ _ _ _=>some .none
 | _=> .none
def fj (k:Nat) (v:AV):Bool:=
 match xj v with
 | .none=>true
 | some .none=>false
 | some (some k')=>k' !=k
def mz (ops:Array Oper):List Oper→Nat→Bool
 | [],_=>false
 | o::r,i=>(!alone ops i&&bM ops i o.op) || mz ops r (i+1)
def nA (ops:Array Oper):Bool:=mz ops ops.toList 0
def eC:Op→Bool
 | .call k=>match k.callee with
  | .value _=>true
  | _=>false
 | _=>false
def yP (c:ax):Op→Bool
 | .call k=>match k.callee with
  | .value (.func f)=>c.own f
  | _=>false
 | _=>false
def eV:Op→Option Nat
 | .load _ (.tmp p)=>some p
 | .call ⟨.builtin .len,args,_⟩=>match args.toList with
  | [.tmp p]=>some p
  | _=>none
 | _=>none
def mA (ops:Array Oper) (j:Nat) (op:Op):Option Nat:=
 match eV op with
 | some p=>fV ops j p
 | none=>none
def rD (ops:Array Oper) (b:List Nat) (i:Nat):List Oper→Nat→List Nat
 | [],_=> []
 | o::r,j=>match j==i || ordered b i j || ordered b j i,mA ops j o.op with
  | false,some p=>p::rD ops b i r (j+1)
  | _,_=>rD ops b i r (j+1)
def jI (ops:Array Oper) (i:Nat):List Nat:=rD ops (fM ops) i ops.toList 0
def mB (ops:Array Oper) (b:List Nat) (i:Nat):List Oper→Nat→Bool
 | [],_=>true
 | o::r,j=>(j==i || ordered b i j || ordered b j i || blind o.op || (mA ops j o.op).isSome)&&mB ops b i r (j+1)
def bY (c:ax) (ops:Array Oper) (i:Nat) (op:Op):Bool:=
 yP c op&&mB ops (fM ops) i ops.toList 0&&(jI ops i).all fun p=>ops.toList.all fun o=>o.dst !=some p
def jc (n:Nat):AV→Bool
 | .ptr k _=>decide (k<n)
 | .cz k _ _ _=>decide (k<n)
 | .ay k _=>decide (k<n)
 | .fN k _ _ _=>decide (k<n)
 | .cF k=>decide (k<n)
 | .kD k=>decide (k<n)
 | _=>true
def pW (cf:aL):aL:=fun f args bs=>
 match f,bs with
 | .fn f, []=>match cf (.fn f) args [] with
  | some (v, [])=>some (v, [])
  | some (v,x::r)=>match v.hand 0 (x::r) with
   | some v'=>match v'.under 0 with
    | true=>some (v', [])
    | false=>some (v,x::r)
   | none=>none
  | none=>none
 | f,bs=>cf f args bs
def Aq:AV→Option Nat
 | .ptr k _=>some k
 | .cz k _ _ _=>some k
 | .ay k _=>some k
 | .fN k _ _ _=>some k
 | .cF k=>some k
 | .kD k=>some k
 | _=>none
def pX (c:ax) (ops:Array Oper):List Oper→Nat→Bool
 | [],_=>false
 | o::r,i=>(!alone ops i&&bY c ops i o.op) || pX c ops r (i+1)
def uD (c:ax) (ops:Array Oper):Bool:=pX c ops ops.toList 0
def gv (op:Op):Option Nat:=
 match eV op with
 | some p=>some p
 | none=>c9 op
def cu (c:ax) (ops:Array Oper) (j:Nat) (op:Op) (t:Env):Bool:=
 match gv op with
 | none=>true
 | some p=>match fV ops j p with
  | none=>true
  | some q=>(!uD c ops || Aq (t.get .any p)==Aq (t.get .any q))&&(!nA ops || xj (t.get .any p)==xj (t.get .any q))
def e9 (cf:aL):Bool→aL
 | true=>cf
 | false=>pW cf
def bc (c:ax) (cf:aL) (ops:Array Oper) (base i:Nat) (o:Oper) (s:St):Option St:=
 match bL ops s.t o.guard with
 | some true=>match alone ops i with
  | true=>match bV c cf o.op s.t s.b (cv ops.toList i base) with
   | some (v,e)=>match e.on s.b (cv ops.toList i base) with
    | some bs'=>some {t:=bu s.t o.dst v,b:=bs'}
    | .none=> .none
   | .none=> .none
  | false=>match bV c (e9 cf (bY c ops i o.op)) o.op s.t (dA ops base i s.b) (cv ops.toList i base) with
   | some (v,.none)=>match cu c ops i o.op s.t with
    | true=>some {t:=bu s.t o.dst v,b:=s.b}
    | false=> .none
   | some (v,.new x)=>match asks o.op,s.b[cv ops.toList i base]? with
    | true,some .dead=>some {t:=bu s.t o.dst v,b:=s.b.set (cv ops.toList i base) x}
    | _,_=> .none
   | some (v,.ig k x)=>match bM ops i o.op&&sK o.op x&&cu c ops i o.op s.t&&(gN ops i).all fun p=>fj k (s.t.get .any p) with
    | true=>some {t:=bu s.t o.dst v,b:=s.b.set k x}
    | false=> .none
   | some (v,.app x)=>match bY c ops i o.op&&(jI ops i).all fun p=>jc s.b.length (s.t.get .any p) with
    | true=>some {t:=bu s.t o.dst v,b:=s.b++ [x]}
    | false=> .none
   | _=> .none
 | some false=>some {t:=bu s.t o.dst (.aT []),b:=s.b}
 | .none=> .none
def FP (c:ax) (cf:aL) (ops:Array Oper) (base:Nat):List Oper→Nat→St→Option St
 | [],_,s=>some s
 | o::r,i,s=>match bc c cf ops base i o s with
  | some s'=>FP c cf ops base r (i+1) s'
  | .none=> .none
def Kc (c:ax) (fn:Func) (n:Nat) (r:Option (Ex×St)):Option (AV×List ad):=
 match r with
 | some (.normal,s') | some (.ret,s')=>match gM c s'.t s'.b fn.results.toList with
  | some vs=>handOver n s' (Ao vs)
  | none=>none
 | _=>none
def Ar (c:ax) (ex:Code→St→Option (Ex×St)):aL:=fun f args bs=>
 match f with
 | .fL _ _ _=>none
 | .fn f=>match c.fn.get none f with
  | some fn=>match fn.body with
   | some a=>Kc c fn bs.length (ex a {t:=start fn.ntmps args,b:=bs})
   | none=>none
  | none=>none
def region (c:ax) (cf:aL) (ops:Array Oper) (draw:Bool) (s:St):Option St:=
 match draw with
 | false=>oY c cf ops ops.toList s.b.length s.t (s.b++List.replicate (cG ops.toList) .dead)
 | true=>match rB ops with
  | true=>FP c cf ops s.b.length ops.toList 0 {s with b:=s.b++List.replicate (cG ops.toList) .dead}
  | false=>none
def Mc (r:Option (Ex×St)) (f:St→Option (Ex×St)):Option (Ex×St):=
 match r with
 | some (.normal,s)=>f s
 | r=>r
def NK (id:Nat) (r:Option (Ex×St)):Option (Ex×St):=
 match r with
 | some (.exit i,s)=>if i=id then some (.normal,s) else some (.exit i,s)
 | r=>r
def R6 (v:AV) (a b:Option (Ex×St)):Option (Ex×St):=
 match v with
 | .bool true=>a
 | .bool false=>b
 | _=>none
def exec (c:ax):Nat→Code→St→Option (Ex×St)
 | 0,_,_=>none
 | n+1,code,s=>
  match code with
  | .skip=>some (.normal,s)
  | .label _=>some (.normal,s)
  | .ret=>some (.ret,s)
  | .exit id=>some (.exit id,s)
  | .seq a b=>Mc (exec c n a s) (exec c n b)
  | .cond x a b=>R6 (ev s.t x) (exec c n a s) (exec c n b s)
  | .block id a=>NK id (exec c n a s)
  | .loop a=>Mc (exec c n a s) fun s'=>exec c n (.loop a) (s'.cut s.b.length)
  | .region _ ops draw=>(region c (Ar c (exec c n)) ops draw s).map (Ex.normal,·)
  | _=>none
def call (c:ax) (n:Nat):aL:=Ar c (exec c n)
end Go.Am
