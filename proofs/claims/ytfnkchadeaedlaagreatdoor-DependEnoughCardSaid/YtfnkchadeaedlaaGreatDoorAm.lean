/-
 The abstract machine: a fuelled evaluator of translated code over abstract values. Slices that came in are taken by value, the memory that a call makes for itself lies in numbered boxes, and no address, no tape and no capacity is seen. Definitions alone.
-/
import GoSem.Dispatch
import GoSem.Machine.Return
import Derived.Orders
set_option linter.all false
namespace Go.Am
inductive Ex where
 | normal | ret | exit (id:Nat)
structure Site where
 ps:Array Tmp
 asg:Code
 body:Code
 keep:List Nat
 nt:Nat
 deriving Inhabited
def posOf (keep:List Nat) (i:Nat):Option Nat:=
 match keep with
 | []=>none
 | j::r=>if i=j then some 0 else (posOf r i).map (· +1)
inductive AV where
 | any
 | j4
 | int (k:IntKind) (n:Int)
 | bool (b:Bool)
 | str (s:List UInt8)
 | agg (cs:List AV)
 | aO (vs:List AV)
 | bJ
 | ptr (k off:Nat)
 | cg (k n i off:Nat)
 | cW (cs:List AV)
 | ah (nl:Option Bool) (sz:Nat) (es:List AV)
 | bS (nl:Option Bool)
 | az (k n:Nat)
 | fE (k n lo hi:Nat)
 | fn (f:FuncId) (first caps:List AV)
 | dZ
 | fq (nn:Bool)
 | kT (t:TypeId) (k:IntKind) (n:Int)
 | fB (k:Nat) (s:Site) (env:List AV)
 | cw (k:Nat)
 | kq (k:Nat)
 | gR
 deriving Inhabited
inductive Mj where
 | ready | busy
 | done (e:Ex)
structure Hd where
 out:Bool
 ty:Option TypeId
 link:Option (Nat×Nat×Nat×Nat)
 deriving Inhabited
inductive Qr where
 | str (s:List UInt8) (pos:Nat)
 | map (m:Nat) (seen:List Nat) (clock:Nat)
 deriving Inhabited
inductive ab where
 | dead
 | var (ty:TypeId) (cs:List AV)
 | sl (sh:Hd) (sz:Nat) (es:List AV)
 | loop (st:Mj)
 | mp (es:List (AV×AV×Nat)) (clock:Nat)
 | gone
 | iter (o:Qr)
 deriving Inhabited
inductive Tr (α:Type) where
 | lf
 | nd (v:α) (l r:Tr α)
def Tr.get {α:Type} (d:α):Tr α→Nat→α
 | .lf,_=>d
 | .nd v l r,i=>match i with
  | 0=>v
  | j+1=>match j%2 with
   | 0=>l.get d (j / 2)
   | _=>r.get d (j / 2)
def Tr.set {α:Type}:Tr α→Nat→α→Tr α
 | .lf,_,_=> .lf
 | .nd v l r,i,x=>match i with
  | 0=> .nd x l r
  | j+1=>match j%2 with
   | 0=> .nd v (l.set (j / 2) x) r
   | _=> .nd v l (r.set (j / 2) x)
def Tr.has {α:Type}:Tr α→Nat→Bool
 | .lf,_=>false
 | .nd _ l r,i=>match i with
  | 0=>true
  | j+1=>match j%2 with
   | 0=>l.has (j / 2)
   | _=>r.has (j / 2)
def Tr.mk {α:Type} (d:α):Nat→Nat→Tr α
 | 0,_=> .lf
 | k+1,n=>match n with
  | 0=> .lf
  | m+1=> .nd d (Tr.mk d k ((m+1) / 2)) (Tr.mk d k (m / 2))
def Tr.map {α β:Type} (f:α→β):Tr α→Tr β
 | .lf=> .lf
 | .nd v l r=> .nd (f v) (l.map f) (r.map f)
abbrev Env:=Tr AV
structure St where
 t:Env
 b:List ab
def AV.cells:AV→List AV
 | .agg cs=>cs
 | v=> [v]
def AV.bT:AV→Bool
 | .any | .agg _ | .aO _=>false
 | _=>true
def ei:List AV→Bool
 | []=>true
 | v::r=>v.bT&&ei r
mutual
def AV.plain:AV→Bool
 | .ptr _ _ | .cg _ _ _ _ | .az _ _ | .fE _ _ _ _ | .fB _ _ _ | .cw _ | .kq _=>false
 | .agg cs=>ai cs
 | .aO cs=>ai cs
 | .fn _ a b=>ai a&&ai b
 | _=>true
def ai:List AV→Bool
 | []=>true
 | v::r=>v.plain&&ai r
end
mutual
def AV.flat:AV→Bool
 | .ptr _ _ | .cg _ _ _ _ | .az _ _ | .fE _ _ _ _ | .cW _ | .ah _ _ _ | .bS _ | .fB _ _ _ | .cw _ | .kq _=>false
 | .agg cs=>flatAll cs
 | .aO cs=>flatAll cs
 | .fn _ a b=>flatAll a&&flatAll b
 | _=>true
def flatAll:List AV→Bool
 | []=>true
 | v::r=>v.flat&&flatAll r
end
def AV.Mk:AV→Nat
 | .int _ _=>1
 | .str _=>2
 | .bool _=>3
 | .ah _ _ _=>4
 | .bS _=>4
 | _=>0
def AV.differ:AV→AV→Bool
 | .int _ n,.int _ m=>decide (n≠m)
 | .str s,.str t=>decide (s≠t)
 | .bool a,.bool b=>a !=b
 | x,y=>decide (x.Mk≠0∧y.Mk≠0∧x.Mk≠y.Mk)
def ej:List AV→List AV→Bool
 | [],_=>true
 | _::_, []=>false
 | x::xs,y::ys=> !x.differ y&&ej xs ys
def jB (xs:List AV):List AV→Bool
 | []=>ej xs []
 | y::ys=>ej xs (y::ys) || jB xs ys
mutual
def AV.apart (ys:List AV):AV→Bool
 | .ptr _ _ | .cg _ _ _ _ | .az _ _ | .fE _ _ _ _ | .cW _ | .fn _ _ _ | .fB _ _ _ | .cw _ | .kq _=>false
 | .ah _ _ es=>(es.isEmpty || !jB (es.flatMap AV.cells) ys)&&ey ys es
 | .agg cs=>ey ys cs
 | .aO cs=>ey ys cs
 | _=>true
def ey (ys:List AV):List AV→Bool
 | []=>true
 | v::r=>v.apart ys&&ey ys r
end
def iQ:Value→AV
 | .int k n=> .int k n
 | .bool b=> .bool b
 | .string s=> .str s.data.toList
 | .pointer none=> .bJ
 | .slice none 0 0=> .ah (some true) 0 []
 | .nilFunc=> .dZ
 | .nilIface=> .fq false
 | .agg _=> .any
 | .tuple _=> .any
 | _=> .j4
def fK:Value→AV
 | .agg cs=> .agg (cs.toList.map iQ)
 | .tuple vs=> .aO (vs.toList.map iQ)
 | v=>iQ v
def ev (t:Env):Operand→AV
 | .tmp i=>t.get .any i
 | .const v=>fK v
 | .func f=> .fn f [] []
 | .global _=> .any
structure TI where
 desc:TypeDesc
 size:Nat
 bytes:Nat
 zero:Option (List AV)
 agg:Bool
 eq:Bool
 fields:List (TypeId×Nat×Nat)
structure ax where
 ty:Tr (Option TI)
 fn:Tr (Option Func)
 ov:FuncId→Option (List AV→Option AV)
 DY:FuncId→Option (List AV→List ab→Option (AV×List ab))
 ext:FuncId→Option (List AV→Option AV)
 own:FuncId→Bool
 cut:Bool:=false
 jX:FuncId→Bool:=fun _=>false
 DZ:FuncId→Bool:=fun _=>false
def ax.ti (c:ax) (t:TypeId):Option TI:=c.ty.get none t
def ax.descOf (c:ax) (t:TypeId):Option TypeDesc:=(c.ti t).map (·.desc)
def gB (i:TI) (cs:List AV) (off:Nat):Option AV:=
 match i.agg with
 | true=>if off+i.size≤cs.length then some (.agg ((cs.drop off).take i.size)) else none
 | false=>cs[off]?
def kr (op:BinOp) (k:IntKind) (a b:Int):Option AV:=
 match op with
 | .add=>some (.int k (k.wrap (a+b)))
 | .sub=>some (.int k (k.wrap (a-b)))
 | .mul=>some (.int k (k.wrap (a*b)))
 | .quo=>if b=0 then none else some (.int k (k.wrap (a.tdiv b)))
 | .rem=>if b=0 then none else some (.int k (a.tmod b))
 | .and=>some (.int k (k.wrap (BitVec.ofInt k.bits a&&&BitVec.ofInt k.bits b).toNat))
 | .or=>some (.int k (k.wrap (BitVec.ofInt k.bits a ||| BitVec.ofInt k.bits b).toNat))
 | .xor=>some (.int k (k.wrap (BitVec.ofInt k.bits a^^^BitVec.ofInt k.bits b).toNat))
 | .andNot=>some (.int k (k.wrap (BitVec.ofInt k.bits a&&& ~~~ BitVec.ofInt k.bits b).toNat))
 | .eql=>some (.bool (a==b))
 | .neq=>some (.bool (a !=b))
 | .lss=>some (.bool (decide (a<b)))
 | .leq=>some (.bool (decide (a≤b)))
 | .gtr=>some (.bool (decide (a>b)))
 | .geq=>some (.bool (decide (a≥b)))
 | _=>none
def kZ (op:BinOp) (k:IntKind) (a b:Int):Option AV:=
 if b<0 then none else
 match op with
 | .shl=>some (.int k (k.wrap (a*2^min b.toNat k.bits)))
 | .shr=>some (.int k (a.fdiv (2^min b.toNat k.bits)))
 | _=>none
def tY:Nat:=4611686018427387904
def wF (op:BinOp) (a b:List UInt8):Option AV:=
 match op with
 | .add=>if a.length+b.length≤tY then some (.str (a++b)) else none
 | .eql=>some (.bool (a==b))
 | .neq=>some (.bool (!(a==b)))
 | .lss=>some (.bool (Op.bytesLess a b))
 | .leq=>some (.bool (Op.bytesLess a b || a==b))
 | .gtr=>some (.bool (!(Op.bytesLess a b || a==b)))
 | .geq=>some (.bool (!Op.bytesLess a b))
 | _=>none
def k7 (c:ax) (d:TypeDesc) (x y:AV):Option Bool:=
 match d with
 | .bool=>match x,y with
  | .bool a,.bool b=>some (a==b)
  | _,_=>none
 | .int _=>match x,y with
  | .int k a,.int k' b=>if k=k' then some (a==b) else none
  | _,_=>none
 | .string=>match x,y with
  | .str a,.str b=>some (a==b)
  | _,_=>none
 | .pointer e=>match x,y with
  | .bJ,.bJ=>some true
  | .bJ,.ptr _ _ | .ptr _ _,.bJ | .bJ,.cW _ | .cW _,.bJ=>some false
  | .ptr k a,.ptr l b=>match c.ti e with
   | some j=>if j.size≠0 then some (k==l&&a==b) else none
   | none=>none
  | _,_=>none
 | .slice _=>match x,y with
  | .ah (some n) _ _,.ah (some true) 0 []=>some n
  | .ah _ _ (_::_),.ah (some true) 0 []=>some false
  | .bS (some n),.ah (some true) 0 []=>some n
  | _,_=>none
 | .func _ _ _=>match x,y with
  | .dZ,.dZ=>some true
  | .fn _ _ _,.dZ | .dZ,.fn _ _ _=>some false
  | _,_=>none
 | _=>none
def both:Option Bool→Option Bool→Option Bool
 | some a,some b=>some (a&&b)
 | _,_=>none
def eqFields (part:TypeId→List AV→Nat→Option AV) (eq:TypeId→AV→AV→Option Bool) (xs ys:List AV):List (TypeId×Nat×Nat)→Option Bool
 | []=>some true
 | (t,off,_)::r=>match part t xs off,part t ys off with
  | some a,some b=>both (eq t a b) (eqFields part eq xs ys r)
  | _,_=>none
def eqItems (part:TypeId→List AV→Nat→Option AV) (eq:TypeId→AV→AV→Option Bool) (e:TypeId) (n:Nat) (xs ys:List AV):List Nat→Option Bool
 | []=>some true
 | i::r=>match part e xs (i*n),part e ys (i*n) with
  | some a,some b=>both (eq e a b) (eqItems part eq e n xs ys r)
  | _,_=>none
def iR (c:ax) (t:TypeId) (cs:List AV) (off:Nat):Option AV:=
 match c.ti t with
 | some i=>gB i cs off
 | none=>none
def bH (c:ax):Nat→TypeId→AV→AV→Option Bool
 | 0,_,_,_=>none
 | d+1,t,x,y=>match c.ti t with
  | none=>none
  | some i=>match x,y with
   | .agg xs,.agg ys=>match i.eq with
    | true=>match i.desc with
     | .struct _=>eqFields (iR c) (bH c d) xs ys i.fields
     | .array n e=>match c.ti e with
      | some j=>eqItems (iR c) (bH c d) e j.size xs ys (List.range n)
      | none=>none
     | _=>none
    | false=>none
   | x,y=>k7 c i.desc x y
def ju (c:ax) (t:TypeId) (op:BinOp) (x y:AV):Option AV:=
 match x,y with
 | .int k a,.int k' b=>match op with
  | .shl=>kZ .shl k a b
  | .shr=>kZ .shr k a b
  | op=>if k=k' then kr op k a b else none
 | .str a,.str b=>wF op a b
 | x,y=>match op with
  | .eql=>(bH c 20 t x y).map .bool
  | .neq=>(bH c 20 t x y).map fun b=> .bool (!b)
  | _=>none
def E2:Operand→Bool
 | .const .nilIface=>true
 | _=>false
def yd (c:ax) (t:TypeId) (op:BinOp) (x:AV):Option AV:=
 match c.ti t with
 | some i=>match i.desc with
  | .interface _=>match op,x with
   | .eql,.fq b=>some (.bool (!b))
   | .neq,.fq b=>some (.bool b)
   | .eql,.kT _ _ _=>some (.bool false)
   | .neq,.kT _ _ _=>some (.bool true)
   | _,_=>none
  | _=>none
 | none=>none
def E3 (c:ax) (t:TypeId) (op:BinOp) (q:Operand) (x y:AV):Option AV:=
 match E2 q with
 | true=>yd c t op x
 | false=>ju c t op x y
def Jc (op:UnOp) (x:AV):Option AV:=
 match op,x with
 | .neg,.int k n=>kr .sub k 0 n
 | .xor,.int k n=>kr .xor k (if k.signed then -1 else k.max) n
 | .not,.bool b=>some (.bool (!b))
 | _,_=>none
def byteOf:AV→Option UInt8
 | .int .u8 n=>some (UInt8.ofNat n.toNat)
 | _=>none
def bytesOf:List AV→Option (List UInt8)
 | []=>some []
 | v::r=>match byteOf v,bytesOf r with
  | some c,some l=>some (c::l)
  | _,_=>none
def aj (c:UInt8):AV:= .int .u8 c.toNat
inductive cQ where
 | none
 | new (b:ab)
 | gZ (k:Nat) (b:ab)
 | move (k:Nat) (b:ab)
 | app (b:ab)
 | all (bs:List ab)
abbrev Out:=Option (AV×cQ)
def l8:Nat:=16777216
def bK:Nat:=70368744177664
def ab.at (bs:List ab) (k:Nat):ab:=bs.getD k .dead
def elems (bs:List ab):AV→Option (Nat×List AV)
 | .ah _ sz es=>some (sz,es)
 | .bS _=>some (0, [])
 | .az k n=>match ab.at bs k with
  | .sl _ sz es=>if n=es.length then some (sz,es) else none
  | _=>none
 | .fE k n lo hi=>match ab.at bs k with
  | .sl _ sz es=>if n=es.length∧lo≤hi∧hi≤n then some (sz,(es.take hi).drop lo) else none
  | _=>none
 | _=>none
def cJ (x:Option AV) (d lim:Nat):Option Nat:=
 match x with
 | .none=>some d
 | some (.int _ i)=>if 0≤i∧i≤(lim:Int) then some i.toNat else .none
 | _=> .none
def qV (agg:Bool) (n:Nat) (cs:List AV):Option AV:=
 if cs.length=n∧ai cs=true∧ei cs=true then match agg with
  | true=>some (.agg cs)
  | false=>match cs with
   | [v]=>match v with
    | .agg _=> .none
    | v=>some v
   | _=> .none
 else .none
def af (cs:List AV) (off:Nat) (v:List AV):List AV:=cs.take off++v++cs.drop (off+v.length)
def sc (place:Nat→Option (Nat×Nat)) (cs:List AV):List (Nat×AV)→Option (List AV)
 | []=>some cs
 | (i,v)::rest=>match place i with
  | .none=> .none
  | some (off,size)=>if v.cells.length=size∧off+size≤cs.length∧ei v.cells=true then sc place (af cs off v.cells) rest else .none
def ku (es:List AV) (sz:Nat):List (Nat×AV)→Option (List AV)
 | []=>some es
 | (i,v)::rest=>if i<es.length∧v.cells.length=sz∧v.plain=true∧ei v.cells=true then ku (es.set i v) sz rest else .none
def lR (t:Env) (xs:List Operand):List AV:=xs.map (ev t)
def source (bs:List ab):AV→Option (List AV)
 | .str s=>some (s.map aj)
 | x=>(elems bs x).map (·.2)
def E4:AV→List AV→Option AV
 | x, []=>some x
 | .int k a,.int k' b::rest=>if k=k' then E4 (.int k (if b<a then b else a)) rest else .none
 | _,_=> .none
def E5:AV→List AV→Option AV
 | x, []=>some x
 | .int k a,.int k' b::rest=>if k=k' then E5 (.int k (if b>a then b else a)) rest else .none
 | _,_=> .none
def oI (d:TypeDesc) (x:AV) (bs:List ab):Out:=
 match d with
 | .string=>match x with
  | .str s=>some (.int .i64 s.length,.none)
  | _=> .none
 | .slice _=>match elems bs x with
  | some (_,es)=>some (.int .i64 es.length,.none)
  | .none=> .none
 | .array n _=>some (.int .i64 n,.none)
 | _=> .none
def l9 (i:TI):Bool:=
 match i.zero with
 | some z=>z.length==i.size
 | .none=>false
def ez (i:TI) (el:TypeId) (bs:List ab) (s:AV) (xs:List AV) (id:Nat):Out:=
 match s with
 | .ah (some true) z []=>match xs with
  | []=>some (.ah (some true) z [],.none)
  | xs=>if xs.length*(i.bytes+1)≤bK∧l9 i=true then some (.az id xs.length,.new (.sl ⟨false,some el,none⟩ i.size xs)) else .none
 | .bS nl=>match xs with
  | []=>some (.bS nl,.none)
  | xs=>if xs.length*(i.bytes+1)≤bK∧l9 i=true then some (.az id xs.length,.new (.sl ⟨false,some el,none⟩ i.size xs)) else .none
 | .az k n=>match ab.at bs k with
  | .sl sh sz es=>if n=es.length∧sz=i.size∧sh.ty=some el∧(n+xs.length)*(i.bytes+1)≤bK∧l9 i=true then some (.az k (n+xs.length),.gZ k (.sl ⟨sh.out,sh.ty,none⟩ sz (es++xs))) else .none
  | _=> .none
 | .fE k n lo hi=>match ab.at bs k with
  | .sl sh sz es=>if n=es.length∧lo=0∧hi≤n∧xs≠ []∧sz=i.size∧sh.out=false∧sh.ty=some el∧(hi+xs.length)*(i.bytes+1)≤bK∧l9 i=true then some (.az id (hi+xs.length),.move k (.sl ⟨sh.out,sh.ty,none⟩ sz (es.take hi++xs))) else .none
  | _=> .none
 | _=> .none
def gv (c:ax) (bs:List ab) (st xt:TypeId) (s x:AV) (id:Nat):Out:=
 match c.ti st,c.ti xt with
 | some i,some j=>match i.desc with
  | .slice e=>match c.ti e with
   | some k=>match j.desc with
    | .slice _=>match elems bs x with
     | some (sz,xs)=>if sz=k.size∨xs= [] then ez k e bs s xs id else .none
     | .none=> .none
    | .string=>match x with
     | .str l=>if k.size=1 then ez k e bs s (l.map aj) id else .none
     | _=> .none
    | _=> .none
   | .none=> .none
  | _=> .none
 | _,_=> .none
def partOf:AV→Option (Nat×Nat×Nat×Nat)
 | .az k n=>some (k,n,0,n)
 | .fE k n lo hi=>some (k,n,lo,hi)
 | _=>none
def ye (i:TI) (el:TypeId) (bs:List ab) (d:AV) (xs:List AV):Out:=
 match partOf d with
 | some (k,n,lo,hi)=>match ab.at bs k with
  | .sl sh sz es=>if n=es.length∧lo≤hi∧hi≤n∧sz=i.size∧sh.out=false∧sh.ty=some el then (if lo=hi then some (.int .i64 0,.none) else some (.int .i64 (xs.take (hi-lo)).length,.gZ k (.sl ⟨sh.out,sh.ty,none⟩ sz (af es lo (xs.take (hi-lo)))))) else .none
  | _=> .none
 | .none=>match d with
  | .bS _=>some (.int .i64 0,.none)
  | _=> .none
def tZ (c:ax) (bs:List ab) (st:TypeId) (d x:AV):Out:=
 match c.ti st with
 | some i=>match i.desc with
  | .slice e=>match c.ti e with
   | some k=>match elems bs x with
    | some (sz,xs)=>if sz=k.size∨xs= [] then ye k e bs d xs else .none
    | .none=> .none
   | .none=> .none
  | _=> .none
 | .none=> .none
def zF (x:AV) (bs:List ab):Out:=
 match x with
 | .ah (some true) 0 []=>some (.bJ,.none)
 | .az k n=>match ab.at bs k with
  | .sl _ _ es=>if n=es.length then some (.cg k n 0 0,.none) else .none
  | _=> .none
 | _=> .none
def j5:List AV→Option (List UInt8)
 | []=>some []
 | .int .u8 n::r=>if 0≤n∧n<256 then (j5 r).map (UInt8.ofNat n.toNat:: ·) else none
 | _::_=>none
def zG (c:ax) (u:TypeId) (x n:AV) (bs:List ab):Out:=
 match x,n with
 | .bJ,.int .i64 0=>some (.str [],.none)
 | .cg k m 0 0,.int .i64 n=>match ab.at bs k,c.ti u with
  | .sl sh sz es,some j=>if m=es.length∧n=(m:Int)∧sh.ty=some u∧sz=1∧j.size=1∧m≤bK then (j5 es).map fun s=>(.str s,.gZ k (.sl ⟨sh.out,.none,none⟩ sz es)) else .none
  | _,_=> .none
 | _,_=> .none
def ea (c:ax) (b:Builtin) (argTypes:List TypeId) (args:List AV) (bs:List ab) (id:Nat):Out:=
 match b with
 | .len=>match argTypes,args with
  | [t], [x]=>match c.ti t with
   | some i=>oI i.desc x bs
   | .none=> .none
  | _,_=> .none
 | .append=>match argTypes,args with
  | [st,xt], [s,x]=>gv c bs st xt s x id
  | _,_=> .none
 | .min=>match args with
  | x::rest=>(E4 x rest).map (·,.none)
  | _=> .none
 | .max=>match args with
  | x::rest=>(E5 x rest).map (·,.none)
  | _=> .none
 | .unsafeSliceData=>match args with
  | [x]=>zF x bs
  | _=> .none
 | .unsafeString=>match argTypes,args with
  | [t,_], [x,n]=>match c.descOf t with
   | some (.pointer u)=>zG c u x n bs
   | _=> .none
  | _,_=> .none
 | .copy=>match argTypes,args with
  | [st,_], [d,x]=>tZ c bs st d x
  | _,_=> .none
 | _=> .none
def ua (c a b:AV):Out:=
 match c with
 | .bool true=>some (a,.none)
 | .bool false=>some (b,.none)
 | _=> .none
def ub (i:Option TI) (e:TypeId) (id:Nat):Out:=
 match i with
 | some i=>match i.zero with
  | some z=>some (.ptr id 0,.new (.var e z))
  | .none=> .none
 | .none=> .none
def GW (e:TypeId) (cs:List AV) (id:Nat):Out:=
 match ei cs with
 | true=>some (.ptr id 0,.new (.var e cs))
 | false=> .none
def yf (fs:List (TypeId×Nat×Nat)) (i:Nat):Option (Nat×Nat):=(fs[i]?).map (·.2)
def yg (n i:Nat):Option (Nat×Nat):=some (i*n,n)
def qW (c:ax) (i:Option TI) (parts:List (Nat×AV)):Out:=
 match i with
 | some i=>match i.zero with
  | some z=>match i.desc with
   | .struct _=>(sc (yf i.fields) z parts).map fun cs=>(.agg cs,.none)
   | .array _ e=>match c.ti e with
    | some j=>(sc (yg j.size) z parts).map fun cs=>(.agg cs,.none)
    | .none=> .none
   | _=> .none
  | .none=> .none
 | .none=> .none
mutual
def eA (bs:List ab):AV→Option AV
 | .az k n=>match ab.at bs k with
  | .sl _ sz es=>if n=es.length then some (.ah .none sz es) else .none
  | _=> .none
 | .fE k n lo hi=>match ab.at bs k with
  | .sl _ sz es=>if n=es.length∧lo≤hi∧hi≤n then some (.ah .none sz ((es.take hi).drop lo)) else .none
  | _=> .none
 | .agg cs=>match ai cs with
  | true=>some (.agg cs)
  | false=>(dd bs cs).map .agg
 | v=>some v
def dd (bs:List ab):List AV→Option (List AV)
 | []=>some []
 | v::r=>match eA bs v,dd bs r with
  | some a,some l=>some (a::l)
  | _,_=> .none
end
mutual
def AV.leaves:AV→List AV
 | .agg cs=>match ai cs with
  | true=> []
  | false=>aN cs
 | v=> [v]
def aN:List AV→List AV
 | []=> []
 | v::r=>v.leaves++aN r
end
def aI (bs:List ab):List AV→List ab
 | []=>bs
 | .az k _::r=>aI (match ab.at bs k with | .sl sh sz es=>bs.set k (.sl ⟨true,sh.ty,none⟩ sz es) | _=>bs) r
 | .fE k _ _ _::r=>aI (match ab.at bs k with | .sl sh sz es=>bs.set k (.sl ⟨true,sh.ty,none⟩ sz es) | _=>bs) r
 | _::r=>aI bs r
def k8:List AV→Bool
 | []=>false
 | .az _ _::_=>true
 | .fE _ _ _ _::_=>true
 | _::r=>k8 r
def gC (c:ax) (i:Option TI) (len:Nat) (parts:List (Nat×AV)) (id:Nat):Out:=
 match i with
 | some i=>match i.desc with
  | .slice e=>match c.ti e with
   | some j=>match j.zero with
    | some z=>if len=0 then (match parts with | []=>some (.bS (some false),.none) | _::_=> .none) else if len*j.size≤l8 then match qV j.agg j.size z with
      | some ze=>(ku (List.replicate len ze) j.size parts).map fun es=>(.az id len,.new (.sl ⟨false,some e,none⟩ j.size es))
      | .none=> .none
     else .none
    | .none=> .none
   | .none=> .none
  | _=> .none
 | .none=> .none
def AV.df:AV→AV
 | .bS nl=> .ah nl 0 []
 | v=>v
def AV.soft:AV→AV
 | .agg cs=> .agg (cs.map AV.df)
 | v=>v.df
def fL (c:ax) (i:Option TI) (len:Nat) (parts:List (Nat×AV)) (id:Nat) (bs:List ab):Out:=
 match ai (parts.map (·.2)) with
 | true=>gC c i len parts id
 | false=>match dd bs (parts.map (·.2)),bs[id]? with
  | some l,some .dead=>match ai l,gC c i len ((parts.map (·.1)).zip l) id with
   | true,some (v,.new b)=>some (v,.all ((aI bs (aN (parts.map (·.2)))).set id b))
   | _,_=> .none
  | _,_=> .none
def eB (c:ax) (i:Option TI) (len:Nat) (parts:List (Nat×AV)) (id:Nat) (bs:List ab):Out:=
 fL c i len (parts.map fun p=>(p.1,p.2.soft)) id bs
def linked (sh:Hd) (j:Nat) (i:TI) (cs:List AV):List AV:=
 match sh.link with
 | some (i',j',k',n)=>match i.agg with
  | false=>if i'=j then cs.set j' (.az k' n) else cs
  | true=>cs
 | none=>cs
def ma (i:Option TI) (a:AV) (bs:List ab):Out:=
 match i with
 | some i=>match a with
  | .ptr k off=>match ab.at bs k with
   | .var _ cs=>(gB i cs off).map (·,.none)
   | _=> .none
  | .cg k n j off=>match ab.at bs k with
   | .sl sh _ es=>if n=es.length then match es[j]? with
     | some e=>(gB i (linked sh j i e.cells) off).map (·,.none)
     | .none=> .none
    else .none
   | _=> .none
  | .cW cs=>(gB i cs 0).map (·,.none)
  | _=> .none
 | .none=> .none
def cF (e:AV) (off:Nat) (v:List AV):Option AV:=
 match e with
 | .agg cs=>if off+v.length≤cs.length∧ai v=true then some (.agg (af cs off v)) else .none
 | _=>match off,v with
  | 0, [c]=>if c.plain=true then (match c with | .agg _=> .none | c=>some c) else .none
  | _,_=> .none
def GX:List AV→Option (Nat×Nat)
 | [.az k m]=>some (k,m)
 | _=>none
def iC (bs:List ab) (k k' m j off:Nat) (sh:Hd) (sz:Nat) (es:List AV) (e:AV):Out:=
 match eA bs (.az k' m),decide (k'=k) with
 | some l,false=>(cF e off [l]).map fun e'=>(.aO [],.all ((aI bs [.az k' m]).set k (.sl ⟨sh.out,sh.ty,some (j,off,k',m)⟩ sz (es.set j e'))))
 | _,_=> .none
theorem j6 {bs:List ab} {k k' m j off:Nat} {sh:Hd} {sz:Nat} {es:List AV} {x r:AV} {e:cQ} (h:iC bs k k' m j off sh sz es x=some (r,e)): ∃b,e= .all b:=by
 unfold iC at h;split at h
 ·rename_i l _ _;cases hst:cF x off [l] with
  | none=>rw [hst] at h;cases h
  | some y=>rw [hst] at h;cases h;exact ⟨_,rfl⟩
 ·cases h
def mb (i:Option TI) (a:AV) (v:List AV) (bs:List ab):Out:=
 match i with
 | some i=>if v.length=i.size∧ei v=true then match a with
   | .ptr k off=>match ab.at bs k with
    | .var ty cs=>if off+v.length≤cs.length then some (.aO [],.gZ k (.var ty (af cs off v))) else .none
    | _=> .none
   | .cg k n j off=>match ab.at bs k with
    | .sl sh sz es=>if n=es.length∧sh.out=false∧sh.ty.isSome=true then match es[j]? with
      | some e=>match GX v with
       | some (k',m)=>iC bs k k' m j off sh sz es e
       | .none=>(cF e off v).map fun e'=>(.aO [],.gZ k (.sl ⟨sh.out,sh.ty,none⟩ sz (es.set j e')))
      | .none=> .none
     else .none
    | _=> .none
   | _=> .none
  else .none
 | .none=> .none
def gg:AV→Bool
 | .int _ _ | .bool _ | .str _=>true
 | _=>false
def gA:AV→Bool
 | .agg cs=>cs.all gg
 | v=>gg v
def iP:AV→AV→Bool
 | .int k a,.int k' b=>decide (k=k')&&a==b
 | .bool a,.bool b=>a==b
 | .str a,.str b=>a==b
 | _,_=>false
def kv:List AV→List AV→Bool
 | [], []=>true
 | a::r,b::s=>iP a b&&kv r s
 | _,_=>false
def sameKey:AV→AV→Bool
 | .agg a,.agg b=>kv a b
 | a,b=>iP a b
def iD (part:TypeId→List AV→Nat→Option AV) (fine:TypeId→AV→Bool) (cs:List AV):List (TypeId×Nat×Nat)→Bool
 | []=>true
 | (t,off,_)::r=>match part t cs off with
  | some a=>fine t a&&iD part fine cs r
  | none=>false
def pG (part:TypeId→List AV→Nat→Option AV) (fine:TypeId→AV→Bool) (e:TypeId) (n:Nat) (cs:List AV):List Nat→Bool
 | []=>true
 | i::r=>match part e cs (i*n) with
  | some a=>fine e a&&pG part fine e n cs r
  | none=>false
def cD (c:ax):Nat→TypeId→AV→Bool
 | 0,_,_=>false
 | d+1,t,x=>match c.ti t with
  | some i=>match i.desc with
   | .struct _=>match x with
    | .agg cs=>iD (iR c) (cD c d) cs i.fields
    | _=>false
   | .array n e=>match x,c.ti e with
    | .agg cs,some j=>pG (iR c) (cD c d) e j.size cs (List.range n)
    | _,_=>false
   | .interface _=>false
   | _=>true
  | none=>false
def jy (eq:AV→AV→Option Bool) (k:AV):List (AV×AV×Nat)→Nat→Option (Option (Nat×AV×AV×Nat))
 | [],_=>some none
 | e::r,i=>match eq k e.1 with
  | some true=>some (some (i,e))
  | some false=>jy eq k r (i+1)
  | none=>none
def pF (i:TI):Option AV:=
 match i.zero with
 | some z=>match i.agg with
  | true=>some (.agg z)
  | false=>match z with
   | [x]=>some x
   | _=>none
 | none=>none
def fJ (x:AV) (bs:List ab):Option (List (AV×AV×Nat)):=
 match x with
 | .gR=>some []
 | .cw k=>match ab.at bs k with
  | .mp es _=>some es
  | _=>none
 | _=>none
def qS (ok:Bool) (v:AV) (b:Bool):AV:=
 match ok with
 | true=> .aO [v,.bool b]
 | false=>v
def dM (c:ax) (i:Option TI) (x k:AV) (ok:Bool) (bs:List ab):Out:=
 match i with
 | some i=>match i.desc with
  | .map kt el=>match fJ x bs with
   | some es=>match cD c 8 kt k with
    | true=>match jy (bH c 20 kt) k es 0 with
     | some (some (_,e))=>some (qS ok e.2.1 true,.none)
     | some .none=>match c.ti el with
      | some j=>(pF j).map fun z=>(qS ok z false,.none)
      | .none=> .none
     | .none=> .none
    | false=> .none
   | .none=> .none
  | _=> .none
 | .none=> .none
def hZ:AV→Bool
 | .az _ _=>true
 | .any=>true
 | x=>x.plain
def aQ (c:ax) (i:Option TI) (m k x:AV) (bs:List ab):Out:=
 match i with
 | some i=>match i.desc with
  | .map kt _=>match m with
   | .cw b=>match ab.at bs b with
    | .mp es clock=>match cD c 8 kt k&&gA k&&hZ x with
     | true=>match jy (bH c 20 kt) k es 0 with
      | some (some (j,e))=>match sameKey e.1 k with
       | true=>some (.aO [],.gZ b (.mp (es.set j (k,x,e.2.2)) clock))
       | false=> .none
      | some .none=>some (.aO [],.gZ b (.mp (es++ [(k,x,clock)]) (clock+1)))
      | .none=> .none
     | false=> .none
    | _=> .none
   | _=> .none
  | _=> .none
 | .none=> .none
def iE (c:ax) (i:Option TI) (m k:AV) (bs:List ab):Out:=
 match i with
 | some i=>match i.desc with
  | .map kt el=>match m with
   | .cw b=>match ab.at bs b with
    | .mp es clock=>match cD c 8 kt k&&gA k with
     | true=>match jy (bH c 20 kt) k es 0 with
      | some (some (_,e))=>match sameKey e.1 k with
       | true=>some (.aO [e.2.1,.int .i64 e.2.2],.gZ b (.mp es clock))
       | false=> .none
      | some .none=>match c.ti el with
       | some j=>match pF j with
        | some z=>match z.plain with
         | true=>some (.aO [z,.int .i64 clock],.gZ b (.mp (es++ [(k,z,clock)]) (clock+1)))
         | false=> .none
        | .none=> .none
       | .none=> .none
      | .none=> .none
     | false=> .none
    | _=> .none
   | _=> .none
  | _=> .none
 | .none=> .none
def sd (n:Int):List (AV×AV×Nat)→Nat→Option (Nat×AV×AV×Nat)
 | [],_=>none
 | e::r,i=>if (e.2.2:Int)=n then some (i,e) else sd n r (i+1)
def ft (m s x:AV) (bs:List ab):Out:=
 match m,s with
 | .cw b,.int _ n=>match ab.at bs b with
  | .mp es clock=>match hZ x with
   | true=>match sd n es 0 with
    | some (j,e)=>some (.aO [],.gZ b (.mp (es.set j (e.1,x,e.2.2)) clock))
    | .none=> .none
   | false=> .none
  | _=> .none
 | _,_=> .none
def mc (x:AV) (bs:List ab):Out:=
 match x with
 | .kq k=>match ab.at bs k with
  | .iter (.map m seen clock)=>match seen.getLast?,ab.at bs m with
   | some n,.mp es clock'=>if clock'=clock then (match sd n es 0 with
     | some (_,e)=>some (.aO [e.1,e.2.1],.none)
     | .none=> .none) else .none
   | _,_=> .none
  | _=> .none
 | _=> .none
def kp (r:Option AV) (i:Option TI) (id:Nat):Out:=
 match i with
 | some i=>match i.desc with
  | .map _ _=>match r with
   | .none=>some (.cw id,.new (.mp [] 0))
   | some (.int _ _)=>some (.cw id,.new (.mp [] 0))
   | _=> .none
  | _=> .none
 | .none=> .none
def k9 (i:Option TI) (x:AV) (bs:List ab) (id:Nat):Out:=
 match i with
 | some i=>match i.desc,x with
  | .string,.str s=>some (.kq id,.new (.iter (.str s 0)))
  | .map _ _,.cw m=>match ab.at bs m with
   | .mp _ clock=>match decide (m<id) with
    | true=>some (.kq id,.new (.iter (.map m [] clock)))
    | false=> .none
   | _=> .none
  | _,_=> .none
 | .none=> .none
def la (s:List UInt8) (pos:Nat):Nat×Nat:=Utf8.decode ⟨s.toArray⟩ pos
def uc (x:AV) (str:Bool) (bs:List ab):Out:=
 match x,str with
 | .kq k,true=>match ab.at bs k with
  | .iter (.str s pos)=>match decide (pos<s.length) with
   | true=>some (.aO [.bool true,.int .i64 pos,.int .i32 (la s pos).1],.gZ k (.iter (.str s (pos+(la s pos).2))))
   | false=>some (.aO [.bool false],.gZ k (.iter (.str s pos)))
  | _=> .none
 | _,_=> .none
def gi (x:AV):Out:=
 match x with
 | .ptr k off=>some (.ptr k off,.none)
 | .cW cs=>some (.cW cs,.none)
 | .fn f a b=>some (.fn f a b,.none)
 | _=> .none
def ud (c:ax) (t:TypeId) (x:AV):Out:=
 match c.ti t with
 | some i=>match i.desc,x with
  | .int _,.int k n=>some (.kT t k n,.none)
  | _,_=> .none
 | .none=> .none
def dD (c:ax) (src dst:Option TI) (x:AV) (bs:List ab) (id:Nat):Out:=
 match src,dst with
 | some s,some d=>match d.desc,x with
  | .unsafePointer,.ptr k off=>match s.desc,ab.at bs k with
   | .pointer t,.var _ cs=>match c.ti t with
    | some j=>if j.size≠0∧off<cs.length then some (.ptr k off,.none) else .none
    | .none=> .none
   | _,_=> .none
  | .pointer u,.ptr k 0=>match s.desc,ab.at bs k with
   | .unsafePointer,.var ty cs=>match c.ti u with
    | some j=>if ty=u∧j.size=cs.length∧j.size≠0 then some (.ptr k 0,.none) else .none
    | .none=> .none
   | _,_=> .none
  | .int k,.int _ n=>some (.int k (k.wrap n),.none)
  | .string,.str s=>some (.str s,.none)
  | .string,.int _ n=>some (.str (Utf8.encode n).data.toList,.none)
  | .slice e,.str l=>match s.desc,c.descOf e with
   | .string,some (.int .u8)=>if l= [] then some (.ah (some false) 1 [],.none) else if l.length≤bK then some (.az id l.length,.new (.sl ⟨false,some e,none⟩ 1 (l.map aj))) else .none
   | _,_=> .none
  | .string,x=>match s.desc with
   | .slice e=>match c.descOf e,elems bs x with
    | some (.int .u8),some (_,es)=>(bytesOf es).map fun s=>(.str s,.none)
    | _,_=> .none
   | _=> .none
  | _,_=> .none
 | _,_=> .none
def iS (c:ax) (i:Option TI) (l m:AV) (id:Nat):Out:=
 match i,l,m with
 | some i,.int _ l,.int _ m=>match i.desc with
  | .slice e=>match c.ti e with
   | some j=>match j.zero with
    | some z=>if 0≤l∧l≤m∧m*(j.bytes+1)≤(bK:Int) then match qV j.agg j.size z with
      | some ze=>if m=0 then some (.bS (some false),.none) else some (.az id l.toNat,.new (.sl ⟨false,some e,none⟩ j.size (List.replicate l.toNat ze)))
      | .none=> .none
     else .none
    | .none=> .none
   | .none=> .none
  | _=> .none
 | _,_,_=> .none
def qX (i:Option TI) (sz:Nat) (es:List AV):Bool:=
 match i with
 | some i=>sz==i.size || es.isEmpty
 | .none=>false
def dn (c:ax) (d:TypeDesc) (x:AV) (lo hi:Option AV) (bs:List ab):Out:=
 match d,x with
 | .string,.str s=>match cJ hi s.length s.length with
  | some h=>(cJ lo 0 h).map fun l=>(.str ((s.take h).drop l),.none)
  | .none=> .none
 | .slice el,.ah nl sz es=>match qX (c.ti el) sz es with
  | true=>match cJ hi es.length es.length with
   | some h=>(cJ lo 0 h).map fun l=>(.ah nl sz ((es.take h).drop l),.none)
   | .none=> .none
  | false=> .none
 | .slice el,.az k n=>match ab.at bs k with
  | .sl sh sz es=>if n=es.length∧qX (c.ti el) sz es=true then match cJ hi es.length es.length with
    | some h=>(cJ lo 0 h).map fun l=>match c.cut with
     | true=>if l=0∧h=n then (.az k n,.none) else (.fE k n l h,.none)
     | false=>(.ah .none sz ((es.take h).drop l),match sh.out,sh.link with | true,.none=> .none | _,_=> .gZ k (.sl ⟨true,sh.ty,none⟩ sz es))
    | .none=> .none
   else .none
  | _=> .none
 | .slice el,.fE k n a z=>match ab.at bs k with
  | .sl _ sz es=>if n=es.length∧a≤z∧z≤n∧qX (c.ti el) sz es=true then match cJ hi (z-a) (z-a) with
    | some h=>(cJ lo 0 h).map fun l=>(.fE k n (a+l) (a+h),.none)
    | .none=> .none
   else .none
  | _=> .none
 | _,_=> .none
def isZero:Option AV→Bool
 | some (.int _ n)=>n==0
 | .none=>false
 | _=>false
def jC (c:ax) (d:TypeDesc) (x:AV) (lo hi mx:Option AV) (bs:List ab):Out:=
 match d with
 | .slice el=>match elems bs x,c.ti el with
  | some _,some _=>if (lo.isNone || isZero lo)&&isZero hi&&isZero mx then some (.bS none,.none) else .none
  | _,_=> .none
 | _=> .none
def se (x:AV) (o:Nat) (bs:List ab):Out:=
 match x with
 | .ptr k off=>some (.ptr k (off+o),.none)
 | .cg k n i off=>match ab.at bs k with
  | .sl _ _ es=>if n=es.length∧i<n then some (.cg k n i (off+o),.none) else .none
  | _=> .none
 | .cW cs=>some (.cW (cs.drop o),.none)
 | _=> .none
def dQ (i:Option TI) (x:AV) (f:Nat) (bs:List ab):Out:=
 match i with
 | some i=>match i.desc with
  | .struct _=>match i.fields[f]? with
   | some (_,o,n)=>match n with
    | 0=> .none
    | _+1=>se x o bs
   | .none=> .none
  | _=> .none
 | .none=> .none
def oJ (c:ax) (i:Option TI) (x:AV) (f:Nat):Out:=
 match i,x with
 | some i,.agg cs=>match i.desc with
  | .struct _=>match i.fields[f]? with
   | some (ty,o,_)=>(iR c ty cs o).map (·,.none)
   | .none=> .none
  | _=> .none
 | _,_=> .none
def dR (c:ax) (i:Option TI) (x:AV) (ix:AV) (bs:List ab):Out:=
 match i,ix with
 | some i,.int _ n=>match i.desc with
  | .array len e=>if 0≤n∧n<(len:Int) then match c.ti e with
    | some j=>se x (n.toNat*j.size) bs
    | .none=> .none
   else .none
  | .slice e=>match c.ti e with
   | some j=>match x with
    | .ah _ sz es=>if 0≤n∧sz=j.size then match es[n.toNat]? with
      | some v=>some (.cW v.cells,.none)
      | .none=> .none
     else .none
    | .az k m=>match ab.at bs k with
     | .sl _ sz es=>if 0≤n∧m=es.length∧n<(m:Int)∧sz=j.size then some (.cg k m n.toNat 0,.none) else .none
     | _=> .none
    | .fE k m lo hi=>match ab.at bs k with
     | .sl _ sz es=>if 0≤n∧m=es.length∧hi≤m∧(lo:Int)+n<(hi:Int)∧sz=j.size then some (.cg k m (lo+n.toNat) 0,.none) else .none
     | _=> .none
    | _=> .none
   | .none=> .none
  | _=> .none
 | _,_=> .none
def oK (c:ax) (i:Option TI) (x:AV) (ix:AV):Out:=
 match i,ix with
 | some i,.int _ n=>match i.desc,x with
  | .string,.str s=>if 0≤n then match s[n.toNat]? with
    | some c=>some (.int .u8 c.toNat,.none)
    | .none=> .none
   else .none
  | .array len e,.agg cs=>if 0≤n∧n<(len:Int) then match c.ti e with
    | some j=>(gB j cs (n.toNat*j.size)).map (·,.none)
    | .none=> .none
   else .none
  | _,_=> .none
 | _,_=> .none
def iT (x:AV) (i:Nat):Out:=
 match x with
 | .aO vs=>(vs[i]?).map (·,.none)
 | _=> .none
def fj (c:ax) (op:Op) (t:Env) (bs:List ab) (id:Nat):Out:=
 match op with
 | .move x | .assign x=>some (ev t x,.none)
 | .pick x a b=>ua (ev t x) (ev t a) (ev t b)
 | .alloc e=>ub (c.ti e) e id
 | .box e x=>GW e (ev t x).cells id
 | .build ty parts=>qW c (c.ti ty) (parts.toList.map fun p=>(p.1,ev t p.2))
 | .buildSlice ty len parts=>eB c (c.ti ty) len (parts.toList.map fun p=>(p.1,ev t p.2)) id bs
 | .load ty a=>ma (c.ti ty) (ev t a) bs
 | .store ty a x=>mb (c.ti ty) (ev t a) (ev t x).cells bs
 | .nilCheck x=>gi (ev t x)
 | .makeInterface ty x=>ud c ty (ev t x)
 | .binOp op ty x y _=>(E3 c ty op y (ev t x) (ev t y)).map (·,.none)
 | .unOp op _ x=>(Jc op (ev t x)).map (·,.none)
 | .convert src dst x=>dD c (c.ti src) (c.ti dst) (ev t x) bs id
 | .makeFunc (.func f) first caps=>some (.fn f (lR t first.toList) (lR t caps.toList),.none)
 | .makeSlice ty l m=>iS c (c.ti ty) (ev t l) (ev t m) id
 | .slice ty x lo hi mx=>match c.ti ty with
  | some i=>match mx with
   | .none=>dn c i.desc (ev t x) (lo.map (ev t)) (hi.map (ev t)) bs
   | some m=>jC c i.desc (ev t x) (lo.map (ev t)) (hi.map (ev t)) (some (ev t m)) bs
  | .none=> .none
 | .fieldAddr sty x f=>dQ (c.ti sty) (ev t x) f bs
 | .field sty x f=>oJ c (c.ti sty) (ev t x) f
 | .indexAddr ty x ix=>dR c (c.ti ty) (ev t x) (ev t ix) bs
 | .index ty x ix=>oK c (c.ti ty) (ev t x) (ev t ix)
 | .extract x i=>iT (ev t x) i
 | .makeMap ty r=>kp (r.map (ev t)) (c.ti ty) id
 | .range ty x=>k9 (c.ti ty) (ev t x) bs id
 | .next x str=>uc (ev t x) str bs
 | .lookup ty x k ok=>dM c (c.ti ty) (ev t x) (ev t k) ok bs
 | .mapUpdate ty m k x=>aQ c (c.ti ty) (ev t m) (ev t k) (ev t x) bs
 | .insert ty m k x=>aQ c (c.ti ty) (ev t m) (ev t k) (ev t x) bs
 | .mapEntry ty m k=>iE c (c.ti ty) (ev t m) (ev t k) bs
 | .entryStore _ m s x=>ft (ev t m) (ev t s) (ev t x) bs
 | .entry x=>mc (ev t x) bs
 | .call k=>match k.callee with
  | .builtin b=>ea c b k.argTypes.toList (lR t k.args.toList) bs id
  | _=> .none
 | _=> .none
def asks:Op→Bool
 | .alloc _ | .box _ _ | .buildSlice _ _ _ | .makeSlice _ _ _ | .convert _ _ _ | .makeMap _ _ | .range _ _=>true
 | .call k=>match k.callee with
  | .builtin .append=>true
  | _=>false
 | _=>false
def bF (ops:Array Oper) (t:Env) (g:Option (Nat×Bool)):Option Bool:=
 match g with
 | .none=>some true
 | some (j,want)=>match (ops[j]?).bind (·.dst) with
  | .none=>some false
  | some d=>match t.get .any d with
   | .bool b=>some (b==want)
   | .aO _=>some false
   | _=> .none
def bo (t:Env) (d:Option Tmp) (v:AV):Env:=
 match d with
 | some i=>t.set i v
 | .none=>t
def cQ.on (e:cQ) (bs:List ab) (id:Nat):Option (List ab):=
 match e with
 | .none=>some bs
 | .new b=>match bs[id]? with
  | some .dead=>some (bs.set id b)
  | _=> .none
 | .gZ k b=>some (bs.set k b)
 | .move k b=>match bs[id]? with
  | some .dead=>some ((bs.set k .gone).set id b)
  | _=> .none
 | .app b=>some (bs++ [b])
 | .all bs'=>some bs'
inductive Qs where
 | fn (f:FuncId)
 | fB (k:Nat) (s:Site) (env:List AV)
abbrev aG:=Qs→List AV→List ab→Option (AV×List ab)
def oL (v:AV):ab→Bool
 | .sl sh _ es=>sh.out || v.apart (es.flatMap AV.cells)
 | _=>false
def dE (v:AV) (bs:List ab):List AV→Bool
 | []=>true
 | .az k _::r=>oL v (ab.at bs k)&&dE v bs r
 | .fE k _ _ _::r=>oL v (ab.at bs k)&&dE v bs r
 | _::r=>dE v bs r
def cP (k:Bool) (v:AV) (args:List AV) (bs:List ab):Out:=
 match v.flat || !k8 args || (k&&dE v bs args) with
 | true=>some (v,.none)
 | false=>some (v,.all (aI bs args))
def yh (v:AV) (b:List ab):Option (Nat×Hd×Nat×List AV):=
 match v,b with
 | .az 0 n, [.sl sh sz es]=>match sh.link with
  | none=>some (n,sh,sz,es)
  | some _=>none
 | _,_=>none
theorem E6 {v:AV} {b:List ab} {n:Nat} {sh:Hd} {sz:Nat} {es:List AV} (h:yh v b=some (n,sh,sz,es)):v= .az 0 n∧b= [.sl sh sz es]∧sh.link=none:=by
 unfold yh at h;split at h
 ·split at h
  ·rename_i hl;cases h;exact ⟨rfl,rfl,hl⟩
  ·cases h
 ·cases h
def wG (c:ax) (cf:aG) (f:FuncId) (args:List AV) (bs:List ab):Out:=
 match dd bs args with
 | some l=>match ai l with
  | true=>match c.ov f with
   | some g=>match g l with
    | some v=>if v.plain=true then cP (c.DZ f) v (aN args) bs else .none
    | .none=> .none
   | .none=>match cf (.fn f) l [] with
    | some (v, [])=>if v.plain=true then cP (c.DZ f) v (aN args) bs else .none
    | some (v,x::r)=>match yh v (x::r) with
     | some (n,sh,sz,es)=>match k8 (aN args) with
      | true=>some (.az bs.length n,.all (aI bs (aN args)++ [.sl sh sz es]))
      | false=>some (.az bs.length n,.app (.sl sh sz es))
     | .none=>match cf (.fn f) args bs with
      | some (v,bs')=>some (v,.all bs')
      | .none=> .none
    | .none=> .none
  | false=>match cf (.fn f) args bs with
   | some (v,bs')=>some (v,.all bs')
   | .none=> .none
 | .none=> .none
def pH (c:ax) (cf:aG) (f:FuncId) (args:List AV) (bs:List ab):Out:=
 match c.jX f with
 | true=>match cf (.fn f) args bs with
  | some (v,bs')=>some (v,.all bs')
  | .none=> .none
 | false=>wG c cf f args bs
def oc (c:ax) (cf:aG) (f:FuncId) (args:List AV) (bs:List ab):Out:=
 match c.DY f with
 | some g=>match g args bs with
  | some (v,bs')=>some (v,.all bs')
  | .none=> .none
 | .none=>pH c cf f args bs
def bN (c:ax) (cf:aG) (op:Op) (t:Env) (bs:List ab) (id:Nat):Out:=
 match op with
 | .call k=>match k.callee with
  | .value f=>match ev t f with
   | .fn g first caps=>match c.ext g with
    | some G=>match G (first++lR t k.args.toList++caps) with
     | some v=>some (v,.none)
     | .none=> .none
    | .none=>oc c cf g (first++lR t k.args.toList++caps) bs
   | .fB l s env=>match cf (.fB l s env) (lR t k.args.toList) bs with
    | some (v,bs')=>some (v,.all bs')
    | .none=> .none
   | _=> .none
  | _=>fj c (.call k) t bs id
 | op=>fj c op t bs id
def next (id:Nat) (op:Op):Nat:=match asks op with
 | true=>id+1
 | false=>id
def oM (c:ax) (cf:aG) (ops:Array Oper):List Oper→Nat→Env→List ab→Option St
 | [],_,t,bs=>some {t:=t,b:=bs}
 | o::rest,id,t,bs=>
  match bF ops t o.guard with
  | some true=>match bN c cf o.op t bs id with
   | some (v,e)=>match e.on bs id with
    | some bs'=>oM c cf ops rest (next id o.op) (bo t o.dst v) bs'
    | .none=> .none
   | .none=> .none
  | some false=>oM c cf ops rest (next id o.op) (bo t o.dst (.aO [])) bs
  | .none=> .none
def cx:List Oper→Nat
 | []=>0
 | o::r=>(match asks o.op with | true=>1 | false=>0)+cx r
mutual
def AV.under (n:Nat):AV→Bool
 | .ptr k _ | .cg k _ _ _ | .az k _ | .fE k _ _ _ | .cw k | .kq k=>decide (k<n)
 | .agg cs=>aw n cs
 | .aO cs=>aw n cs
 | .fn _ a b=>aw n a&&aw n b
 | .fB k _ env=>decide (k<n)&&aw n env
 | _=>true
def aw (n:Nat):List AV→Bool
 | []=>true
 | v::r=>v.under n&&aw n r
end
def forget (n:Nat) (v:AV):AV:=match v.under n with
 | true=>v
 | false=> .any
def ed (n:Nat) (e:AV×AV×Nat):AV×AV×Nat:=(e.1,forget n e.2.1,e.2.2)
def eC (n:Nat) (sh:Hd):Hd:=
 match sh.link with
 | some (_,_,k,_)=>if k<n then sh else ⟨sh.out,sh.ty,none⟩
 | none=>sh
def bA (n:Nat):ab→ab
 | .var ty cs=> .var ty (cs.map (forget n))
 | .sl sh sz es=> .sl (eC n sh) sz es
 | .mp es clock=> .mp (es.map (ed n)) clock
 | b=>b
def St.cut (s:St) (n:Nat):St:=
 match decide (s.b.length≤n) with
 | true=>s
 | false=>{t:=s.t.map (forget n),b:=(s.b.take n).map (bA n)}
mutual
def AV.hand (n:Nat) (bs:List ab):AV→Option AV
 | .az k m=>if k<n then some (.az k m) else match ab.at bs k with
  | .sl _ sz es=>if m=es.length then some (.ah .none sz es) else .none
  | _=> .none
 | .fE k m lo hi=>if k<n then some (.fE k m lo hi) else match ab.at bs k with
  | .sl _ sz es=>if m=es.length∧lo≤hi∧hi≤m then some (.ah .none sz ((es.take hi).drop lo)) else .none
  | _=> .none
 | .agg cs=>(jD n bs cs).map .agg
 | .aO cs=>(jD n bs cs).map .aO
 | .bS nl=>some (.ah nl 0 [])
 | v=>some v
def jD (n:Nat) (bs:List ab):List AV→Option (List AV)
 | []=>some []
 | v::r=>match v.hand n bs,jD n bs r with
  | some a,some l=>some (a::l)
  | _,_=> .none
end
def tz (c:ax) (t:Env) (bs:List ab):ResultVar→Option AV
 | .tmp i=>some (t.get .any i)
 | .cell a ty=>match t.get .any a with
  | .ptr k off=>match ab.at bs k,c.ti ty with
   | .var _ cs,some i=>gB i cs off
   | _,_=> .none
  | _=> .none
def gD (c:ax) (t:Env) (bs:List ab):List ResultVar→Option (List AV)
 | []=>some []
 | r::l=>match tz c t bs r,gD c t bs l with
  | some a,some b=>some (a::b)
  | _,_=> .none
def zH:List AV→AV
 | [v]=>v
 | l=> .aO l
def handOver (n:Nat) (s:St) (v:AV):Option (AV×List ab):=
 match v.hand n s.b with
 | some v'=>match v'.under n with
  | true=>some (v',((s.cut n).b))
  | false=>some (v,s.b)
 | .none=> .none
def fM:Env→Nat→List AV→Env
 | t,_, []=>t
 | t,i,v::r=>fM (t.set i v) (i+1) r
def start (n:Nat) (args:List AV):Env:=fM (Tr.mk .any 24 n) 0 args
def yi (m:List Nat) (o:Oper):Nat:=
 o.after.toList.foldl (fun s e=>match Region.binds .any e with | true=>s ||| (2^e.on ||| m.getD e.on 0) | false=>s) 0
def zI:List Oper→List Nat→List Nat
 | [],m=>m
 | o::r,m=>zI r (m++ [yi m o])
def fC (ops:Array Oper):List Nat:=zI ops.toList []
def ordered (b:List Nat) (i j:Nat):Bool:=(b.getD j 0).testBit i
def cG:List Oper→Nat→Bool
 | [],_=>true
 | o::r,k=>(o.after.toList.all fun e=> !Region.binds .any e || decide (e.on<k))&&cG r (k+1)
def Qt:Op→Bool
 | .select _ _=>false
 | _=>true
def pI (ops:Array Oper) (b:List Nat) (o:Oper) (i:Nat):List Oper→Nat→Bool
 | [],_=>true
 | p::r,j=>(ordered b i j || o.apart ops p)&&pI ops b o i r (j+1)
def me (ops:Array Oper) (b:List Nat):List Oper→Nat→Bool
 | [],_=>true
 | o::r,i=>Qt o.op&&pI ops b o i r (i+1)&&me ops b r (i+1)
def qY (ops:Array Oper):Bool:=cG ops.toList 0&&me ops (fC ops) ops.toList 0
def blind:Op→Bool
 | .move _ | .assign _ | .pick _ _ _ | .build _ _ | .binOp _ _ _ _ _ | .unOp _ _ _ | .index _ _ _ | .field _ _ _ | .extract _ _ | .nilCheck _=>true
 | _=>false
def np (ops:Array Oper) (j:Nat):Bool:=
 match ops[j]? with
 | some o=>blind o.op
 | none=>true
def yj (ops:Array Oper) (b:List Nat) (i:Nat):Nat→Bool
 | 0=>true
 | j+1=>(j==i || ordered b i j || ordered b j i || np ops j)&&yj ops b i j
def alone (ops:Array Oper) (i:Nat):Bool:=yj ops (fC ops) i ops.size
def b8:List Oper→Nat→Nat→Nat
 | _,0,base=>base
 | [],_+1,base=>base
 | o::r,i+1,base=>b8 r i (next base o.op)
def cR (b:List Nat) (i:Nat):List Oper→Nat→Nat→List Nat
 | [],_,_=> []
 | o::r,j,id=>match asks o.op&& !ordered b j i with
  | true=>id::cR b i r (j+1) (next id o.op)
  | false=>cR b i r (j+1) (next id o.op)
def aR:List Nat→List ab→List ab
 | [],bs=>bs
 | k::r,bs=>aR r (bs.set k .dead)
def dp (ops:Array Oper) (base i:Nat) (bs:List ab):List ab:=aR (cR (fC ops) i ops.toList 0 base) bs
def cp:Op→Bool
 | .store _ _ _=>true
 | _=>false
def eT:Op→Bool
 | .call ⟨.builtin .append,_,_⟩=>true
 | .slice _ _ _ _ .none=>true
 | _=>false
def sf (op:Op):ab→Bool
 | .var _ _=>cp op
 | .sl _ _ _=>eT op
 | _=>false
def cS:Op→Option Nat
 | .load _ (.tmp p)=>some p
 | .slice _ (.tmp p) _ _ .none=>some p
 | _=>none
def isLen:Op→Bool
 | .call ⟨.builtin .len,_,_⟩=>true
 | _=>false
def qZ (o:Op):List Nat:=o.operands.toList.filterMap fun | .tmp i=>some i | _=>none
def lg (ops:Array Oper) (j q:Nat):List Oper→Nat→Bool
 | [],_=>true
 | o::r,k=>(o.dst !=some q || k==j || ordered (fC ops) j k || ordered (fC ops) k j)&&lg ops j q r (k+1)
def fN (ops:Array Oper) (j p:Nat):Option Nat:=
 match ops.toList.filter fun o=>o.dst==some p with
 | []=>some p
 | [o]=>match o.op with
  | .move (.tmp q)=>match lg ops j q ops.toList 0 with
   | true=>some q
   | false=>none
  | _=>none
 | _=>none
def eY (ops:Array Oper) (j:Nat) (op:Op):Option Nat:=
 match cS op with
 | some p=>fN ops j p
 | none=>none
def mf (ops:Array Oper) (b:List Nat) (i:Nat):List Oper→Nat→List Nat
 | [],_=> []
 | o::r,j=>match j==i || ordered b i j || ordered b j i,eY ops j o.op with
  | false,some p=>p::mf ops b i r (j+1)
  | _,_=>mf ops b i r (j+1)
def gE (ops:Array Oper) (i:Nat):List Nat:=mf ops (fC ops) i ops.toList 0
def gS (ops:Array Oper) (j:Nat) (op o:Op):Bool:=blind o || (isLen o&&cp op) || (match eY ops j o with | some q=> !(qZ op).contains q | none=>false)
def pJ (ops:Array Oper) (b:List Nat) (i:Nat) (op:Op):List Oper→Nat→Bool
 | [],_=>true
 | o::r,j=>(j==i || ordered b i j || ordered b j i || gS ops j op o.op)&&pJ ops b i op r (j+1)
def bG (ops:Array Oper) (i:Nat) (op:Op):Bool:=
 (cp op || eT op)&&pJ ops (fC ops) i op ops.toList 0&&(gE ops i).all fun p=>lg ops i p ops.toList 0
def wH:AV→Option (Option Nat)
 | .ptr k _=>some (some k)
 | .cg k _ _ _=>some (some k)
 | .az _ _=>some .none
 | .fE _ _ _ _=>some .none
 | _=> .none
def eZ (k:Nat) (v:AV):Bool:=
 match wH v with
 | .none=>true
 | some .none=>false
 | some (some k')=>k' !=k
def mg (ops:Array Oper):List Oper→Nat→Bool
 | [],_=>false
 | o::r,i=>(!alone ops i&&bG ops i o.op) || mg ops r (i+1)
def nq (ops:Array Oper):Bool:=mg ops ops.toList 0
def eo:Op→Bool
 | .call k=>match k.callee with
  | .value _=>true
  | _=>false
 | _=>false
def yk (c:ax):Op→Bool
 | .call k=>match k.callee with
  | .value (.func f)=>c.own f
  | _=>false
 | _=>false
def eL:Op→Option Nat
 | .load _ (.tmp p)=>some p
 | .call ⟨.builtin .len,args,_⟩=>match args.toList with
  | [.tmp p]=>some p
  | _=>none
 | _=>none
def mh (ops:Array Oper) (j:Nat) (op:Op):Option Nat:=
 match eL op with
 | some p=>fN ops j p
 | none=>none
def q8 (ops:Array Oper) (b:List Nat) (i:Nat):List Oper→Nat→List Nat
 | [],_=> []
 | o::r,j=>match j==i || ordered b i j || ordered b j i,mh ops j o.op with
  | false,some p=>p::q8 ops b i r (j+1)
  | _,_=>q8 ops b i r (j+1)
def jE (ops:Array Oper) (i:Nat):List Nat:=q8 ops (fC ops) i ops.toList 0
def mi (ops:Array Oper) (b:List Nat) (i:Nat):List Oper→Nat→Bool
 | [],_=>true
 | o::r,j=>(j==i || ordered b i j || ordered b j i || blind o.op || (mh ops j o.op).isSome)&&mi ops b i r (j+1)
def bQ (c:ax) (ops:Array Oper) (i:Nat) (op:Op):Bool:=
 yk c op&&mi ops (fC ops) i ops.toList 0&&(jE ops i).all fun p=>ops.toList.all fun o=>o.dst !=some p
def iU (n:Nat):AV→Bool
 | .ptr k _=>decide (k<n)
 | .cg k _ _ _=>decide (k<n)
 | .az k _=>decide (k<n)
 | .fE k _ _ _=>decide (k<n)
 | .cw k=>decide (k<n)
 | .kq k=>decide (k<n)
 | _=>true
def pK (cf:aG):aG:=fun f args bs=>
 match f,bs with
 | .fn f, []=>match cf (.fn f) args [] with
  | some (v, [])=>some (v, [])
  | some (v,x::r)=>match v.hand 0 (x::r) with
   | some v'=>match v'.under 0 with
    | true=>some (v', [])
    | false=>some (v,x::r)
   | none=>none
  | none=>none
 | f,bs=>cf f args bs
def zJ:AV→Option Nat
 | .ptr k _=>some k
 | .cg k _ _ _=>some k
 | .az k _=>some k
 | .fE k _ _ _=>some k
 | .cw k=>some k
 | .kq k=>some k
 | _=>none
def pL (c:ax) (ops:Array Oper):List Oper→Nat→Bool
 | [],_=>false
 | o::r,i=>(!alone ops i&&bQ c ops i o.op) || pL c ops r (i+1)
def ue (c:ax) (ops:Array Oper):Bool:=pL c ops ops.toList 0
def gj (op:Op):Option Nat:=
 match eL op with
 | some p=>some p
 | none=>cS op
def bY (c:ax) (ops:Array Oper) (j:Nat) (op:Op) (t:Env):Bool:=
 match gj op with
 | none=>true
 | some p=>match fN ops j p with
  | none=>true
  | some q=>(!ue c ops || zJ (t.get .any p)==zJ (t.get .any q))&&(!nq ops || wH (t.get .any p)==wH (t.get .any q))
def eQ (cf:aG):Bool→aG
 | true=>cf
 | false=>pK cf
def aT (c:ax) (cf:aG) (ops:Array Oper) (base i:Nat) (o:Oper) (s:St):Option St:=
 match bF ops s.t o.guard with
 | some true=>match alone ops i with
  | true=>match bN c cf o.op s.t s.b (b8 ops.toList i base) with
   | some (v,e)=>match e.on s.b (b8 ops.toList i base) with
    | some bs'=>some {t:=bo s.t o.dst v,b:=bs'}
    | .none=> .none
   | .none=> .none
  | false=>match bN c (eQ cf (bQ c ops i o.op)) o.op s.t (dp ops base i s.b) (b8 ops.toList i base) with
   | some (v,.none)=>match bY c ops i o.op s.t with
    | true=>some {t:=bo s.t o.dst v,b:=s.b}
    | false=> .none
   | some (v,.new x)=>match asks o.op,s.b[b8 ops.toList i base]? with
    | true,some .dead=>some {t:=bo s.t o.dst v,b:=s.b.set (b8 ops.toList i base) x}
    | _,_=> .none
   | some (v,.gZ k x)=>match bG ops i o.op&&sf o.op x&&bY c ops i o.op s.t&&(gE ops i).all fun p=>eZ k (s.t.get .any p) with
    | true=>some {t:=bo s.t o.dst v,b:=s.b.set k x}
    | false=> .none
   | some (v,.app x)=>match bQ c ops i o.op&&(jE ops i).all fun p=>iU s.b.length (s.t.get .any p) with
    | true=>some {t:=bo s.t o.dst v,b:=s.b++ [x]}
    | false=> .none
   | _=> .none
 | some false=>some {t:=bo s.t o.dst (.aO []),b:=s.b}
 | .none=> .none
def E7 (c:ax) (cf:aG) (ops:Array Oper) (base:Nat):List Oper→Nat→St→Option St
 | [],_,s=>some s
 | o::r,i,s=>match aT c cf ops base i o s with
  | some s'=>E7 c cf ops base r (i+1) s'
  | .none=> .none
def Jd (c:ax) (fn:Func) (n:Nat) (r:Option (Ex×St)):Option (AV×List ab):=
 match r with
 | some (.normal,s') | some (.ret,s')=>match gD c s'.t s'.b fn.results.toList with
  | some vs=>handOver n s' (zH vs)
  | none=>none
 | _=>none
def zK (c:ax) (ex:Code→St→Option (Ex×St)):aG:=fun f args bs=>
 match f with
 | .fB _ _ _=>none
 | .fn f=>match c.fn.get none f with
  | some fn=>match fn.body with
   | some a=>Jd c fn bs.length (ex a {t:=start fn.ntmps args,b:=bs})
   | none=>none
  | none=>none
def region (c:ax) (cf:aG) (ops:Array Oper) (draw:Bool) (s:St):Option St:=
 match draw with
 | false=>oM c cf ops ops.toList s.b.length s.t (s.b++List.replicate (cx ops.toList) .dead)
 | true=>match qY ops with
  | true=>E7 c cf ops s.b.length ops.toList 0 {s with b:=s.b++List.replicate (cx ops.toList) .dead}
  | false=>none
def KM (r:Option (Ex×St)) (f:St→Option (Ex×St)):Option (Ex×St):=
 match r with
 | some (.normal,s)=>f s
 | r=>r
def Ml (id:Nat) (r:Option (Ex×St)):Option (Ex×St):=
 match r with
 | some (.exit i,s)=>if i=id then some (.normal,s) else some (.exit i,s)
 | r=>r
def Qu (v:AV) (a b:Option (Ex×St)):Option (Ex×St):=
 match v with
 | .bool true=>a
 | .bool false=>b
 | _=>none
def exec (c:ax):Nat→Code→St→Option (Ex×St)
 | 0,_,_=>none
 | n+1,code,s=>
  match code with
  | .skip=>some (.normal,s)
  | .label _=>some (.normal,s)
  | .ret=>some (.ret,s)
  | .exit id=>some (.exit id,s)
  | .seq a b=>KM (exec c n a s) (exec c n b)
  | .cond x a b=>Qu (ev s.t x) (exec c n a s) (exec c n b s)
  | .block id a=>Ml id (exec c n a s)
  | .loop a=>KM (exec c n a s) fun s'=>exec c n (.loop a) (s'.cut s.b.length)
  | .region _ ops draw=>(region c (zK c (exec c n)) ops draw s).map (Ex.normal,·)
  | _=>none
def call (c:ax) (n:Nat):aG:=zK c (exec c n)
end Go.Am
