/- The abstract machine: -/
import GoSem.Dispatch
import GoSem.Machine.Return
import Derived.Orders
set_option linter.all false
namespace Go.Am
inductive Ex where
 | normal | ret | exit (id:Nat)
structure Site where
 ps:Array Tmp
 asg:Code
 body:Code
 keep:List Nat
 nt:Nat
 deriving Inhabited
def posOf (keep:List Nat) (i:Nat):Option Nat:=
 match keep with
 | []=>none
 | j::r=>if i=j then some 0 else (posOf r i).map (· +1)
inductive AV where
 | any
 | unk
 | int (k:IntKind) (n:Int)
 | bool (b:Bool)
 | str (s:List UInt8)
 | agg (cs:List AV)
 | tup (vs:List AV)
 | nilp
 | ptr (k off:Nat)
 | sptr (k n i off:Nat)
 | eptr (cs:List AV)
 | lst (nl:Option Bool) (sz:Nat) (es:List AV)
 | cap0 (nl:Option Bool)
 | osl (k n:Nat)
 | osv (k n lo hi:Nat)
 | fn (f:FuncId) (first caps:List AV)
 | nilf
 | ifc (nn:Bool)
 | ifi (t:TypeId) (k:IntKind) (n:Int)
 | yld (k:Nat) (s:Site) (env:List AV)
 | mapv (k:Nat)
 | itv (k:Nat)
 | nilm
 deriving Inhabited
inductive LSt where
 | ready | busy
 | done (e:Ex)
structure Hd where
 out:Bool
 ty:Option TypeId
 link:Option (Nat×Nat×Nat×Nat)
 deriving Inhabited
inductive ItB where
 | str (s:List UInt8) (pos:Nat)
 | map (m:Nat) (seen:List Nat) (clock:Nat)
 deriving Inhabited
inductive Box where
 | dead
 | var (ty:TypeId) (cs:List AV)
 | sl (sh:Hd) (sz:Nat) (es:List AV)
 | loop (st:LSt)
 | mp (es:List (AV×AV×Nat)) (clock:Nat)
 | gone
 | iter (o:ItB)
 deriving Inhabited
inductive Tr (α:Type) where
 | lf
 | nd (v:α) (l r:Tr α)
def Tr.get {α:Type} (d:α):Tr α→Nat→α
 | .lf,_=>d
 | .nd v l r,i=>match i with
  | 0=>v
  | j+1=>match j%2 with
   | 0=>l.get d (j / 2)
   | _=>r.get d (j / 2)
def Tr.set {α:Type}:Tr α→Nat→α→Tr α
 | .lf,_,_=> .lf
 | .nd v l r,i,x=>match i with
  | 0=> .nd x l r
  | j+1=>match j%2 with
   | 0=> .nd v (l.set (j / 2) x) r
   | _=> .nd v l (r.set (j / 2) x)
def Tr.has {α:Type}:Tr α→Nat→Bool
 | .lf,_=>false
 | .nd _ l r,i=>match i with
  | 0=>true
  | j+1=>match j%2 with
   | 0=>l.has (j / 2)
   | _=>r.has (j / 2)
def Tr.mk {α:Type} (d:α):Nat→Nat→Tr α
 | 0,_=> .lf
 | k+1,n=>match n with
  | 0=> .lf
  | m+1=> .nd d (Tr.mk d k ((m+1) / 2)) (Tr.mk d k (m / 2))
def Tr.map {α β:Type} (f:α→β):Tr α→Tr β
 | .lf=> .lf
 | .nd v l r=> .nd (f v) (l.map f) (r.map f)
abbrev Env:=Tr AV
structure St where
 t:Env
 b:List Box
def AV.cells:AV→List AV
 | .agg cs=>cs
 | v=> [v]
def AV.isCell:AV→Bool
 | .any | .agg _ | .tup _=>false
 | _=>true
def cellsOk:List AV→Bool
 | []=>true
 | v::r=>v.isCell&&cellsOk r
mutual
def AV.plain:AV→Bool
 | .ptr _ _ | .sptr _ _ _ _ | .osl _ _ | .osv _ _ _ _ | .yld _ _ _ | .mapv _ | .itv _=>false
 | .agg cs=>plainAll cs
 | .tup cs=>plainAll cs
 | .fn _ a b=>plainAll a&&plainAll b
 | _=>true
def plainAll:List AV→Bool
 | []=>true
 | v::r=>v.plain&&plainAll r
end
mutual
def AV.flat:AV→Bool
 | .ptr _ _ | .sptr _ _ _ _ | .osl _ _ | .osv _ _ _ _ | .eptr _ | .lst _ _ _ | .cap0 _ | .yld _ _ _ | .mapv _ | .itv _=>false
 | .agg cs=>flatAll cs
 | .tup cs=>flatAll cs
 | .fn _ a b=>flatAll a&&flatAll b
 | _=>true
def flatAll:List AV→Bool
 | []=>true
 | v::r=>v.flat&&flatAll r
end
def AV.knd:AV→Nat
 | .int _ _=>1
 | .str _=>2
 | .bool _=>3
 | .lst _ _ _=>4
 | .cap0 _=>4
 | _=>0
def AV.differ:AV→AV→Bool
 | .int _ n,.int _ m=>decide (n≠m)
 | .str s,.str t=>decide (s≠t)
 | .bool a,.bool b=>a !=b
 | x,y=>decide (x.knd≠0∧y.knd≠0∧x.knd≠y.knd)
def clashes:List AV→List AV→Bool
 | [],_=>true
 | _::_, []=>false
 | x::xs,y::ys=> !x.differ y&&clashes xs ys
def amongst (xs:List AV):List AV→Bool
 | []=>clashes xs []
 | y::ys=>clashes xs (y::ys) || amongst xs ys
mutual
def AV.apart (ys:List AV):AV→Bool
 | .ptr _ _ | .sptr _ _ _ _ | .osl _ _ | .osv _ _ _ _ | .eptr _ | .fn _ _ _ | .yld _ _ _ | .mapv _ | .itv _=>false
 | .lst _ _ es=>(es.isEmpty || !amongst (es.flatMap AV.cells) ys)&&apartAll ys es
 | .agg cs=>apartAll ys cs
 | .tup cs=>apartAll ys cs
 | _=>true
def apartAll (ys:List AV):List AV→Bool
 | []=>true
 | v::r=>v.apart ys&&apartAll ys r
end
def ofCell:Value→AV
 | .int k n=> .int k n
 | .bool b=> .bool b
 | .string s=> .str s.data.toList
 | .pointer none=> .nilp
 | .slice none 0 0=> .lst (some true) 0 []
 | .nilFunc=> .nilf
 | .nilIface=> .ifc false
 | .agg _=> .any
 | .tuple _=> .any
 | _=> .unk
def ofVal:Value→AV
 | .agg cs=> .agg (cs.toList.map ofCell)
 | .tuple vs=> .tup (vs.toList.map ofCell)
 | v=>ofCell v
def ev (t:Env):Operand→AV
 | .tmp i=>t.get .any i
 | .const v=>ofVal v
 | .func f=> .fn f [] []
 | .global _=> .any
structure TI where
 desc:TypeDesc
 size:Nat
 bytes:Nat
 zero:Option (List AV)
 agg:Bool
 eq:Bool
 fields:List (TypeId×Nat×Nat)
structure Cfg where
 ty:Tr (Option TI)
 fn:Tr (Option Func)
 ov:FuncId→Option (List AV→Option AV)
 ovb:FuncId→Option (List AV→List Box→Option (AV×List Box))
 ext:FuncId→Option (List AV→Option AV)
 own:FuncId→Bool
 cut:Bool:=false
 muts:FuncId→Bool:=fun _=>false
 brw:FuncId→Bool:=fun _=>false
 eat:FuncId→Option (Nat→Hd→Nat→List AV→List AV→Option AV):=fun _=>none
def Cfg.ti (c:Cfg) (t:TypeId):Option TI:=c.ty.get none t
def Cfg.descOf (c:Cfg) (t:TypeId):Option TypeDesc:=(c.ti t).map (·.desc)
def partA (i:TI) (cs:List AV) (off:Nat):Option AV:=
 match i.agg with
 | true=>if off+i.size≤cs.length then some (.agg ((cs.drop off).take i.size)) else none
 | false=>cs[off]?
def intOp (op:BinOp) (k:IntKind) (a b:Int):Option AV:=
 match op with
 | .add=>some (.int k (k.wrap (a+b)))
 | .sub=>some (.int k (k.wrap (a-b)))
 | .mul=>some (.int k (k.wrap (a*b)))
 | .quo=>if b=0 then none else some (.int k (k.wrap (a.tdiv b)))
 | .rem=>if b=0 then none else some (.int k (a.tmod b))
 | .and=>some (.int k (k.wrap (BitVec.ofInt k.bits a&&&BitVec.ofInt k.bits b).toNat))
 | .or=>some (.int k (k.wrap (BitVec.ofInt k.bits a ||| BitVec.ofInt k.bits b).toNat))
 | .xor=>some (.int k (k.wrap (BitVec.ofInt k.bits a^^^BitVec.ofInt k.bits b).toNat))
 | .andNot=>some (.int k (k.wrap (BitVec.ofInt k.bits a&&& ~~~ BitVec.ofInt k.bits b).toNat))
 | .eql=>some (.bool (a==b))
 | .neq=>some (.bool (a !=b))
 | .lss=>some (.bool (decide (a<b)))
 | .leq=>some (.bool (decide (a≤b)))
 | .gtr=>some (.bool (decide (a>b)))
 | .geq=>some (.bool (decide (a≥b)))
 | _=>none
def shiftOp (op:BinOp) (k:IntKind) (a b:Int):Option AV:=
 if b<0 then none else
 match op with
 | .shl=>some (.int k (k.wrap (a*2^min b.toNat k.bits)))
 | .shr=>some (.int k (a.fdiv (2^min b.toNat k.bits)))
 | _=>none
def strLim:Nat:=4611686018427387904
def strOp (op:BinOp) (a b:List UInt8):Option AV:=
 match op with
 | .add=>if a.length+b.length≤strLim then some (.str (a++b)) else none
 | .eql=>some (.bool (a==b))
 | .neq=>some (.bool (!(a==b)))
 | .lss=>some (.bool (Op.bytesLess a b))
 | .leq=>some (.bool (Op.bytesLess a b || a==b))
 | .gtr=>some (.bool (!(Op.bytesLess a b || a==b)))
 | .geq=>some (.bool (!Op.bytesLess a b))
 | _=>none
def eqCell (c:Cfg) (d:TypeDesc) (x y:AV):Option Bool:=
 match d with
 | .bool=>match x,y with
  | .bool a,.bool b=>some (a==b)
  | _,_=>none
 | .int _=>match x,y with
  | .int k a,.int k' b=>if k=k' then some (a==b) else none
  | _,_=>none
 | .string=>match x,y with
  | .str a,.str b=>some (a==b)
  | _,_=>none
 | .pointer e=>match x,y with
  | .nilp,.nilp=>some true
  | .nilp,.ptr _ _ | .ptr _ _,.nilp | .nilp,.eptr _ | .eptr _,.nilp=>some false
  | .ptr k a,.ptr l b=>match c.ti e with
   | some j=>if j.size≠0 then some (k==l&&a==b) else none
   | none=>none
  | _,_=>none
 | .slice _=>match x,y with
  | .lst (some n) _ _,.lst (some true) 0 []=>some n
  | .lst _ _ (_::_),.lst (some true) 0 []=>some false
  | .cap0 (some n),.lst (some true) 0 []=>some n
  | _,_=>none
 | .func _ _ _=>match x,y with
  | .nilf,.nilf=>some true
  | .fn _ _ _,.nilf | .nilf,.fn _ _ _=>some false
  | _,_=>none
 | _=>none
def both:Option Bool→Option Bool→Option Bool
 | some a,some b=>some (a&&b)
 | _,_=>none
def eqFields (part:TypeId→List AV→Nat→Option AV) (eq:TypeId→AV→AV→Option Bool) (xs ys:List AV):List (TypeId×Nat×Nat)→Option Bool
 | []=>some true
 | (t,off,_)::r=>match part t xs off,part t ys off with
  | some a,some b=>both (eq t a b) (eqFields part eq xs ys r)
  | _,_=>none
def eqItems (part:TypeId→List AV→Nat→Option AV) (eq:TypeId→AV→AV→Option Bool) (e:TypeId) (n:Nat) (xs ys:List AV):List Nat→Option Bool
 | []=>some true
 | i::r=>match part e xs (i*n),part e ys (i*n) with
  | some a,some b=>both (eq e a b) (eqItems part eq e n xs ys r)
  | _,_=>none
def partT (c:Cfg) (t:TypeId) (cs:List AV) (off:Nat):Option AV:=
 match c.ti t with
 | some i=>partA i cs off
 | none=>none
def eqRec (c:Cfg):Nat→TypeId→AV→AV→Option Bool
 | 0,_,_,_=>none
 | d+1,t,x,y=>match c.ti t with
  | none=>none
  | some i=>match x,y with
   | .agg xs,.agg ys=>match i.eq with
    | true=>match i.desc with
     | .struct _=>eqFields (partT c) (eqRec c d) xs ys i.fields
     | .array n e=>match c.ti e with
      | some j=>eqItems (partT c) (eqRec c d) e j.size xs ys (List.range n)
      | none=>none
     | _=>none
    | false=>none
   | x,y=>eqCell c i.desc x y
def binA (c:Cfg) (t:TypeId) (op:BinOp) (x y:AV):Option AV:=
 match x,y with
 | .int k a,.int k' b=>match op with
  | .shl=>shiftOp .shl k a b
  | .shr=>shiftOp .shr k a b
  | op=>if k=k' then intOp op k a b else none
 | .str a,.str b=>strOp op a b
 | x,y=>match op with
  | .eql=>(eqRec c 20 t x y).map .bool
  | .neq=>(eqRec c 20 t x y).map fun b=> .bool (!b)
  | _=>none
def nilC:Operand→Bool
 | .const .nilIface=>true
 | _=>false
def nilCmp (c:Cfg) (t:TypeId) (op:BinOp) (x:AV):Option AV:=
 match c.ti t with
 | some i=>match i.desc with
  | .interface _=>match op,x with
   | .eql,.ifc b=>some (.bool (!b))
   | .neq,.ifc b=>some (.bool b)
   | .eql,.ifi _ _ _=>some (.bool false)
   | .neq,.ifi _ _ _=>some (.bool true)
   | _,_=>none
  | _=>none
 | none=>none
def binN (c:Cfg) (t:TypeId) (op:BinOp) (q:Operand) (x y:AV):Option AV:=
 match nilC q with
 | true=>nilCmp c t op x
 | false=>binA c t op x y
def unA (op:UnOp) (x:AV):Option AV:=
 match op,x with
 | .neg,.int k n=>intOp .sub k 0 n
 | .xor,.int k n=>intOp .xor k (if k.signed then -1 else k.max) n
 | .not,.bool b=>some (.bool (!b))
 | _,_=>none
def byteOf:AV→Option UInt8
 | .int .u8 n=>some (UInt8.ofNat n.toNat)
 | _=>none
def bytesOf:List AV→Option (List UInt8)
 | []=>some []
 | v::r=>match byteOf v,bytesOf r with
  | some c,some l=>some (c::l)
  | _,_=>none
def ofByte (c:UInt8):AV:= .int .u8 c.toNat
inductive Eff where
 | none
 | new (b:Box)
 | upd (k:Nat) (b:Box)
 | move (k:Nat) (b:Box)
 | app (b:Box)
 | eat (k:Nat)
 | all (bs:List Box)
abbrev Out:=Option (AV×Eff)
def buildLim:Nat:=16777216
def sliceLim:Nat:=70368744177664
def Box.at (bs:List Box) (k:Nat):Box:=bs.getD k .dead
def elems (bs:List Box):AV→Option (Nat×List AV)
 | .lst _ sz es=>some (sz,es)
 | .cap0 _=>some (0, [])
 | .osl k n=>match Box.at bs k with
  | .sl _ sz es=>if n=es.length then some (sz,es) else none
  | _=>none
 | .osv k n lo hi=>match Box.at bs k with
  | .sl _ sz es=>if n=es.length∧lo≤hi∧hi≤n then some (sz,(es.take hi).drop lo) else none
  | _=>none
 | _=>none
def boundA (x:Option AV) (d lim:Nat):Option Nat:=
 match x with
 | .none=>some d
 | some (.int _ i)=>if 0≤i∧i≤(lim:Int) then some i.toNat else .none
 | _=> .none
def mkElem (agg:Bool) (n:Nat) (cs:List AV):Option AV:=
 if cs.length=n∧plainAll cs=true∧cellsOk cs=true then match agg with
  | true=>some (.agg cs)
  | false=>match cs with
   | [v]=>match v with
    | .agg _=> .none
    | v=>some v
   | _=> .none
 else .none
def splice (cs:List AV) (off:Nat) (v:List AV):List AV:=cs.take off++v++cs.drop (off+v.length)
def fillA (place:Nat→Option (Nat×Nat)) (cs:List AV):List (Nat×AV)→Option (List AV)
 | []=>some cs
 | (i,v)::rest=>match place i with
  | .none=> .none
  | some (off,size)=>if v.cells.length=size∧off+size≤cs.length∧cellsOk v.cells=true then fillA place (splice cs off v.cells) rest else .none
def setElems (es:List AV) (sz:Nat):List (Nat×AV)→Option (List AV)
 | []=>some es
 | (i,v)::rest=>if i<es.length∧v.cells.length=sz∧v.plain=true∧cellsOk v.cells=true then setElems (es.set i v) sz rest else .none
def evAll (t:Env) (xs:List Operand):List AV:=xs.map (ev t)
def source (bs:List Box):AV→Option (List AV)
 | .str s=>some (s.map ofByte)
 | x=>(elems bs x).map (·.2)
def minA:AV→List AV→Option AV
 | x, []=>some x
 | .int k a,.int k' b::rest=>if k=k' then minA (.int k (if b<a then b else a)) rest else .none
 | _,_=> .none
def maxA:AV→List AV→Option AV
 | x, []=>some x
 | .int k a,.int k' b::rest=>if k=k' then maxA (.int k (if b>a then b else a)) rest else .none
 | _,_=> .none
def mapLen (bs:List Box):AV→Option Nat
 | .nilm=>some 0
 | .mapv k=>match Box.at bs k with
  | .mp es _=>some es.length
  | _=>none
 | _=>none
def lenA (d:TypeDesc) (x:AV) (bs:List Box):Out:=
 match d with
 | .string=>match x with
  | .str s=>some (.int .i64 s.length,.none)
  | _=> .none
 | .slice _=>match elems bs x with
  | some (_,es)=>some (.int .i64 es.length,.none)
  | .none=> .none
 | .array n _=>some (.int .i64 n,.none)
 | .map _ _=>match mapLen bs x with
  | some n=>some (.int .i64 n,.none)
  | .none=> .none
 | _=> .none
def zeroOk (i:TI):Bool:=
 match i.zero with
 | some z=>z.length==i.size
 | .none=>false
def appendTo (i:TI) (el:TypeId) (bs:List Box) (s:AV) (xs:List AV) (id:Nat):Out:=
 match s with
 | .lst (some true) z []=>match xs with
  | []=>some (.lst (some true) z [],.none)
  | xs=>if xs.length*(i.bytes+1)≤sliceLim∧zeroOk i=true then some (.osl id xs.length,.new (.sl ⟨false,some el,none⟩ i.size xs)) else .none
 | .cap0 nl=>match xs with
  | []=>some (.cap0 nl,.none)
  | xs=>if xs.length*(i.bytes+1)≤sliceLim∧zeroOk i=true then some (.osl id xs.length,.new (.sl ⟨false,some el,none⟩ i.size xs)) else .none
 | .osl k n=>match Box.at bs k with
  | .sl sh sz es=>if n=es.length∧sz=i.size∧sh.ty=some el∧(n+xs.length)*(i.bytes+1)≤sliceLim∧zeroOk i=true then some (.osl k (n+xs.length),.upd k (.sl ⟨sh.out,sh.ty,none⟩ sz (es++xs))) else .none
  | _=> .none
 | .osv k n lo hi=>match Box.at bs k with
  | .sl sh sz es=>if n=es.length∧lo=0∧hi≤n∧xs≠ []∧sz=i.size∧sh.out=false∧sh.ty=some el∧(hi+xs.length)*(i.bytes+1)≤sliceLim∧zeroOk i=true then some (.osl id (hi+xs.length),.move k (.sl ⟨sh.out,sh.ty,none⟩ sz (es.take hi++xs))) else .none
  | _=> .none
 | _=> .none
def appendA (c:Cfg) (bs:List Box) (st xt:TypeId) (s x:AV) (id:Nat):Out:=
 match c.ti st,c.ti xt with
 | some i,some j=>match i.desc with
  | .slice e=>match c.ti e with
   | some k=>match j.desc with
    | .slice _=>match elems bs x with
     | some (sz,xs)=>if sz=k.size∨xs= [] then appendTo k e bs s xs id else .none
     | .none=> .none
    | .string=>match x with
     | .str l=>if k.size=1 then appendTo k e bs s (l.map ofByte) id else .none
     | _=> .none
    | _=> .none
   | .none=> .none
  | _=> .none
 | _,_=> .none
def partOf:AV→Option (Nat×Nat×Nat×Nat)
 | .osl k n=>some (k,n,0,n)
 | .osv k n lo hi=>some (k,n,lo,hi)
 | _=>none
def copyTo (i:TI) (el:TypeId) (bs:List Box) (d:AV) (xs:List AV):Out:=
 match partOf d with
 | some (k,n,lo,hi)=>match Box.at bs k with
  | .sl sh sz es=>if n=es.length∧lo≤hi∧hi≤n∧sz=i.size∧sh.out=false∧sh.ty=some el then (if lo=hi then some (.int .i64 0,.none) else some (.int .i64 (xs.take (hi-lo)).length,.upd k (.sl ⟨sh.out,sh.ty,none⟩ sz (splice es lo (xs.take (hi-lo)))))) else .none
  | _=> .none
 | .none=>match d with
  | .cap0 _=>some (.int .i64 0,.none)
  | _=> .none
def copyA (c:Cfg) (bs:List Box) (st:TypeId) (d x:AV):Out:=
 match c.ti st with
 | some i=>match i.desc with
  | .slice e=>match c.ti e with
   | some k=>match elems bs x with
    | some (sz,xs)=>if sz=k.size∨xs= [] then copyTo k e bs d xs else .none
    | .none=> .none
   | .none=> .none
  | _=> .none
 | .none=> .none
def dataA (x:AV) (bs:List Box):Out:=
 match x with
 | .lst (some true) 0 []=>some (.nilp,.none)
 | .osl k n=>match Box.at bs k with
  | .sl _ _ es=>if n=es.length then some (.sptr k n 0 0,.none) else .none
  | _=> .none
 | _=> .none
def bytesN:List AV→Option (List UInt8)
 | []=>some []
 | .int .u8 n::r=>if 0≤n∧n<256 then (bytesN r).map (UInt8.ofNat n.toNat:: ·) else none
 | _::_=>none
def textA (c:Cfg) (u:TypeId) (x n:AV) (bs:List Box):Out:=
 match x,n with
 | .nilp,.int .i64 0=>some (.str [],.none)
 | .sptr k m 0 0,.int .i64 n=>match Box.at bs k,c.ti u with
  | .sl sh sz es,some j=>if m=es.length∧n=(m:Int)∧sh.ty=some u∧sz=1∧j.size=1∧m≤sliceLim then (bytesN es).map fun s=>(.str s,.upd k (.sl ⟨sh.out,.none,none⟩ sz es)) else .none
  | _,_=> .none
 | _,_=> .none
def builtinA (c:Cfg) (b:Builtin) (argTypes:List TypeId) (args:List AV) (bs:List Box) (id:Nat):Out:=
 match b with
 | .len=>match argTypes,args with
  | [t], [x]=>match c.ti t with
   | some i=>lenA i.desc x bs
   | .none=> .none
  | _,_=> .none
 | .append=>match argTypes,args with
  | [st,xt], [s,x]=>appendA c bs st xt s x id
  | _,_=> .none
 | .min=>match args with
  | x::rest=>(minA x rest).map (·,.none)
  | _=> .none
 | .max=>match args with
  | x::rest=>(maxA x rest).map (·,.none)
  | _=> .none
 | .unsafeSliceData=>match args with
  | [x]=>dataA x bs
  | _=> .none
 | .unsafeString=>match argTypes,args with
  | [t,_], [x,n]=>match c.descOf t with
   | some (.pointer u)=>textA c u x n bs
   | _=> .none
  | _,_=> .none
 | .copy=>match argTypes,args with
  | [st,_], [d,x]=>copyA c bs st d x
  | _,_=> .none
 | _=> .none
def pickA (c a b:AV):Out:=
 match c with
 | .bool true=>some (a,.none)
 | .bool false=>some (b,.none)
 | _=> .none
def allocA (i:Option TI) (e:TypeId) (id:Nat):Out:=
 match i with
 | some i=>match i.zero with
  | some z=>some (.ptr id 0,.new (.var e z))
  | .none=> .none
 | .none=> .none
def boxA (e:TypeId) (cs:List AV) (id:Nat):Out:=
 match cellsOk cs with
 | true=>some (.ptr id 0,.new (.var e cs))
 | false=> .none
def placeF (fs:List (TypeId×Nat×Nat)) (i:Nat):Option (Nat×Nat):=(fs[i]?).map (·.2)
def placeE (n i:Nat):Option (Nat×Nat):=some (i*n,n)
def buildA (c:Cfg) (i:Option TI) (parts:List (Nat×AV)):Out:=
 match i with
 | some i=>match i.zero with
  | some z=>match i.desc with
   | .struct _=>(fillA (placeF i.fields) z parts).map fun cs=>(.agg cs,.none)
   | .array _ e=>match c.ti e with
    | some j=>(fillA (placeE j.size) z parts).map fun cs=>(.agg cs,.none)
    | .none=> .none
   | _=> .none
  | .none=> .none
 | .none=> .none
mutual
def lend (bs:List Box):AV→Option AV
 | .osl k n=>match Box.at bs k with
  | .sl _ sz es=>if n=es.length then some (.lst .none sz es) else .none
  | _=> .none
 | .osv k n lo hi=>match Box.at bs k with
  | .sl _ sz es=>if n=es.length∧lo≤hi∧hi≤n then some (.lst .none sz ((es.take hi).drop lo)) else .none
  | _=> .none
 | .agg cs=>match plainAll cs with
  | true=>some (.agg cs)
  | false=>(lendAll bs cs).map .agg
 | v=>some v
def lendAll (bs:List Box):List AV→Option (List AV)
 | []=>some []
 | v::r=>match lend bs v,lendAll bs r with
  | some a,some l=>some (a::l)
  | _,_=> .none
end
mutual
def AV.leaves:AV→List AV
 | .agg cs=>match plainAll cs with
  | true=> []
  | false=>leavesAll cs
 | v=> [v]
def leavesAll:List AV→List AV
 | []=> []
 | v::r=>v.leaves++leavesAll r
end
def shareAll (bs:List Box):List AV→List Box
 | []=>bs
 | .osl k _::r=>shareAll (match Box.at bs k with | .sl sh sz es=>bs.set k (.sl ⟨true,sh.ty,none⟩ sz es) | _=>bs) r
 | .osv k _ _ _::r=>shareAll (match Box.at bs k with | .sl sh sz es=>bs.set k (.sl ⟨true,sh.ty,none⟩ sz es) | _=>bs) r
 | _::r=>shareAll bs r
def hasOsl:List AV→Bool
 | []=>false
 | .osl _ _::_=>true
 | .osv _ _ _ _::_=>true
 | _::r=>hasOsl r
def buildSliceA (c:Cfg) (i:Option TI) (len:Nat) (parts:List (Nat×AV)) (id:Nat):Out:=
 match i with
 | some i=>match i.desc with
  | .slice e=>match c.ti e with
   | some j=>match j.zero with
    | some z=>if len=0 then (match parts with | []=>some (.cap0 (some false),.none) | _::_=> .none) else if len*j.size≤buildLim then match mkElem j.agg j.size z with
      | some ze=>(setElems (List.replicate len ze) j.size parts).map fun es=>(.osl id len,.new (.sl ⟨false,some e,none⟩ j.size es))
      | .none=> .none
     else .none
    | .none=> .none
   | .none=> .none
  | _=> .none
 | .none=> .none
def AV.soft1:AV→AV
 | .cap0 nl=> .lst nl 0 []
 | v=>v
def AV.soft:AV→AV
 | .agg cs=> .agg (cs.map AV.soft1)
 | v=>v.soft1
def buildSliceL0 (c:Cfg) (i:Option TI) (len:Nat) (parts:List (Nat×AV)) (id:Nat) (bs:List Box):Out:=
 match plainAll (parts.map (·.2)) with
 | true=>buildSliceA c i len parts id
 | false=>match lendAll bs (parts.map (·.2)),bs[id]? with
  | some l,some .dead=>match plainAll l,buildSliceA c i len ((parts.map (·.1)).zip l) id with
   | true,some (v,.new b)=>some (v,.all ((shareAll bs (leavesAll (parts.map (·.2)))).set id b))
   | _,_=> .none
  | _,_=> .none
def buildSliceL (c:Cfg) (i:Option TI) (len:Nat) (parts:List (Nat×AV)) (id:Nat) (bs:List Box):Out:=
 buildSliceL0 c i len (parts.map fun p=>(p.1,p.2.soft)) id bs
def linked (sh:Hd) (j:Nat) (i:TI) (cs:List AV):List AV:=
 match sh.link with
 | some (i',j',k',n)=>match i.agg with
  | false=>if i'=j then cs.set j' (.osl k' n) else cs
  | true=>cs
 | none=>cs
def loadA (i:Option TI) (a:AV) (bs:List Box):Out:=
 match i with
 | some i=>match a with
  | .ptr k off=>match Box.at bs k with
   | .var _ cs=>(partA i cs off).map (·,.none)
   | _=> .none
  | .sptr k n j off=>match Box.at bs k with
   | .sl sh _ es=>if n=es.length then match es[j]? with
     | some e=>(partA i (linked sh j i e.cells) off).map (·,.none)
     | .none=> .none
    else .none
   | _=> .none
  | .eptr cs=>(partA i cs 0).map (·,.none)
  | _=> .none
 | .none=> .none
def storeElem (e:AV) (off:Nat) (v:List AV):Option AV:=
 match e with
 | .agg cs=>if off+v.length≤cs.length∧plainAll v=true then some (.agg (splice cs off v)) else .none
 | _=>match off,v with
  | 0, [c]=>if c.plain=true then (match c with | .agg _=> .none | c=>some c) else .none
  | _,_=> .none
def oslOf:List AV→Option (Nat×Nat)
 | [.osl k m]=>some (k,m)
 | _=>none
def storeLink (bs:List Box) (k k' m j off:Nat) (sh:Hd) (sz:Nat) (es:List AV) (e:AV):Out:=
 match lend bs (.osl k' m),decide (k'=k) with
 | some l,false=>(storeElem e off [l]).map fun e'=>(.tup [],.all ((shareAll bs [.osl k' m]).set k (.sl ⟨sh.out,sh.ty,some (j,off,k',m)⟩ sz (es.set j e'))))
 | _,_=> .none
theorem storeLink_all {bs:List Box} {k k' m j off:Nat} {sh:Hd} {sz:Nat} {es:List AV} {x r:AV} {e:Eff} (h:storeLink bs k k' m j off sh sz es x=some (r,e)): ∃b,e= .all b:=by
 unfold storeLink at h
 split at h
 ·rename_i l _ _
  cases hst:storeElem x off [l] with
  | none=>rw [hst] at h;cases h
  | some y=>rw [hst] at h;cases h;exact ⟨_,rfl⟩
 ·cases h
def storeA (i:Option TI) (a:AV) (v:List AV) (bs:List Box):Out:=
 match i with
 | some i=>if v.length=i.size∧cellsOk v=true then match a with
   | .ptr k off=>match Box.at bs k with
    | .var ty cs=>if off+v.length≤cs.length then some (.tup [],.upd k (.var ty (splice cs off v))) else .none
    | _=> .none
   | .sptr k n j off=>match Box.at bs k with
    | .sl sh sz es=>if n=es.length∧sh.out=false∧sh.ty.isSome=true then match es[j]? with
      | some e=>match oslOf v with
       | some (k',m)=>storeLink bs k k' m j off sh sz es e
       | .none=>(storeElem e off v).map fun e'=>(.tup [],.upd k (.sl ⟨sh.out,sh.ty,none⟩ sz (es.set j e')))
      | .none=> .none
     else .none
    | _=> .none
   | _=> .none
  else .none
 | .none=> .none
def cellAV:AV→Bool
 | .int _ _ | .bool _ | .str _=>true
 | _=>false
def keyAV:AV→Bool
 | .agg cs=>cs.all cellAV
 | v=>cellAV v
def sameCell:AV→AV→Bool
 | .int k a,.int k' b=>decide (k=k')&&a==b
 | .bool a,.bool b=>a==b
 | .str a,.str b=>a==b
 | _,_=>false
def sameCells:List AV→List AV→Bool
 | [], []=>true
 | a::r,b::s=>sameCell a b&&sameCells r s
 | _,_=>false
def sameKey:AV→AV→Bool
 | .agg a,.agg b=>sameCells a b
 | a,b=>sameCell a b
def keyFields (part:TypeId→List AV→Nat→Option AV) (fine:TypeId→AV→Bool) (cs:List AV):List (TypeId×Nat×Nat)→Bool
 | []=>true
 | (t,off,_)::r=>match part t cs off with
  | some a=>fine t a&&keyFields part fine cs r
  | none=>false
def keyItems (part:TypeId→List AV→Nat→Option AV) (fine:TypeId→AV→Bool) (e:TypeId) (n:Nat) (cs:List AV):List Nat→Bool
 | []=>true
 | i::r=>match part e cs (i*n) with
  | some a=>fine e a&&keyItems part fine e n cs r
  | none=>false
def keyFine (c:Cfg):Nat→TypeId→AV→Bool
 | 0,_,_=>false
 | d+1,t,x=>match c.ti t with
  | some i=>match i.desc with
   | .struct _=>match x with
    | .agg cs=>keyFields (partT c) (keyFine c d) cs i.fields
    | _=>false
   | .array n e=>match x,c.ti e with
    | .agg cs,some j=>keyItems (partT c) (keyFine c d) e j.size cs (List.range n)
    | _,_=>false
   | .interface _=>false
   | _=>true
  | none=>false
def findA (eq:AV→AV→Option Bool) (k:AV):List (AV×AV×Nat)→Nat→Option (Option (Nat×AV×AV×Nat))
 | [],_=>some none
 | e::r,i=>match eq k e.1 with
  | some true=>some (some (i,e))
  | some false=>findA eq k r (i+1)
  | none=>none
def zeroA (i:TI):Option AV:=
 match i.zero with
 | some z=>match i.agg with
  | true=>some (.agg z)
  | false=>match z with
   | [x]=>some x
   | _=>none
 | none=>none
def entriesA (x:AV) (bs:List Box):Option (List (AV×AV×Nat)):=
 match x with
 | .nilm=>some []
 | .mapv k=>match Box.at bs k with
  | .mp es _=>some es
  | _=>none
 | _=>none
def foundA (ok:Bool) (v:AV) (b:Bool):AV:=
 match ok with
 | true=> .tup [v,.bool b]
 | false=>v
def lookupA (c:Cfg) (i:Option TI) (x k:AV) (ok:Bool) (bs:List Box):Out:=
 match i with
 | some i=>match i.desc with
  | .map kt el=>match entriesA x bs with
   | some es=>match keyFine c 8 kt k with
    | true=>match findA (eqRec c 20 kt) k es 0 with
     | some (some (_,e))=>some (foundA ok e.2.1 true,.none)
     | some .none=>match c.ti el with
      | some j=>(zeroA j).map fun z=>(foundA ok z false,.none)
      | .none=> .none
     | .none=> .none
    | false=> .none
   | .none=> .none
  | _=> .none
 | .none=> .none
def valOk:AV→Bool
 | .osl _ _=>true
 | .any=>true
 | x=>x.plain
def mapUpdateA (c:Cfg) (i:Option TI) (m k x:AV) (bs:List Box):Out:=
 match i with
 | some i=>match i.desc with
  | .map kt _=>match m with
   | .mapv b=>match Box.at bs b with
    | .mp es clock=>match keyFine c 8 kt k&&keyAV k&&valOk x with
     | true=>match findA (eqRec c 20 kt) k es 0 with
      | some (some (j,e))=>match sameKey e.1 k with
       | true=>some (.tup [],.upd b (.mp (es.set j (k,x,e.2.2)) clock))
       | false=> .none
      | some .none=>some (.tup [],.upd b (.mp (es++ [(k,x,clock)]) (clock+1)))
      | .none=> .none
     | false=> .none
    | _=> .none
   | _=> .none
  | _=> .none
 | .none=> .none
def mapEntryA (c:Cfg) (i:Option TI) (m k:AV) (bs:List Box):Out:=
 match i with
 | some i=>match i.desc with
  | .map kt el=>match m with
   | .mapv b=>match Box.at bs b with
    | .mp es clock=>match keyFine c 8 kt k&&keyAV k with
     | true=>match findA (eqRec c 20 kt) k es 0 with
      | some (some (_,e))=>match sameKey e.1 k with
       | true=>some (.tup [e.2.1,.int .i64 e.2.2],.upd b (.mp es clock))
       | false=> .none
      | some .none=>match c.ti el with
       | some j=>match zeroA j with
        | some z=>match z.plain with
         | true=>some (.tup [z,.int .i64 clock],.upd b (.mp (es++ [(k,z,clock)]) (clock+1)))
         | false=> .none
        | .none=> .none
       | .none=> .none
      | .none=> .none
     | false=> .none
    | _=> .none
   | _=> .none
  | _=> .none
 | .none=> .none
def bornA (n:Int):List (AV×AV×Nat)→Nat→Option (Nat×AV×AV×Nat)
 | [],_=>none
 | e::r,i=>if (e.2.2:Int)=n then some (i,e) else bornA n r (i+1)
def entryStoreA (m s x:AV) (bs:List Box):Out:=
 match m,s with
 | .mapv b,.int _ n=>match Box.at bs b with
  | .mp es clock=>match valOk x with
   | true=>match bornA n es 0 with
    | some (j,e)=>some (.tup [],.upd b (.mp (es.set j (e.1,x,e.2.2)) clock))
    | .none=> .none
   | false=> .none
  | _=> .none
 | _,_=> .none
def entryA (x:AV) (bs:List Box):Out:=
 match x with
 | .itv k=>match Box.at bs k with
  | .iter (.map m seen clock)=>match seen.getLast?,Box.at bs m with
   | some n,.mp es clock'=>if clock'=clock then (match bornA n es 0 with
     | some (_,e)=>some (.tup [e.1,e.2.1],.none)
     | .none=> .none) else .none
   | _,_=> .none
  | _=> .none
 | _=> .none
def makeMapA (r:Option AV) (i:Option TI) (id:Nat):Out:=
 match i with
 | some i=>match i.desc with
  | .map _ _=>match r with
   | .none=>some (.mapv id,.new (.mp [] 0))
   | some (.int _ _)=>some (.mapv id,.new (.mp [] 0))
   | _=> .none
  | _=> .none
 | .none=> .none
def rangeA (i:Option TI) (x:AV) (bs:List Box) (id:Nat):Out:=
 match i with
 | some i=>match i.desc,x with
  | .string,.str s=>some (.itv id,.new (.iter (.str s 0)))
  | .map _ _,.mapv m=>match Box.at bs m with
   | .mp _ clock=>match decide (m<id) with
    | true=>some (.itv id,.new (.iter (.map m [] clock)))
    | false=> .none
   | _=> .none
  | _,_=> .none
 | .none=> .none
def runeAt (s:List UInt8) (pos:Nat):Nat×Nat:=Utf8.decode ⟨s.toArray⟩ pos
def nextA (x:AV) (str:Bool) (bs:List Box):Out:=
 match x,str with
 | .itv k,true=>match Box.at bs k with
  | .iter (.str s pos)=>match decide (pos<s.length) with
   | true=>some (.tup [.bool true,.int .i64 pos,.int .i32 (runeAt s pos).1],.upd k (.iter (.str s (pos+(runeAt s pos).2))))
   | false=>some (.tup [.bool false],.upd k (.iter (.str s pos)))
  | _=> .none
 | _,_=> .none
def nilCheckA (x:AV):Out:=
 match x with
 | .ptr k off=>some (.ptr k off,.none)
 | .eptr cs=>some (.eptr cs,.none)
 | .fn f a b=>some (.fn f a b,.none)
 | _=> .none
def mkIfcA (c:Cfg) (t:TypeId) (x:AV):Out:=
 match c.ti t with
 | some i=>match i.desc,x with
  | .int _,.int k n=>some (.ifi t k n,.none)
  | _,_=> .none
 | .none=> .none
def convertA (c:Cfg) (src dst:Option TI) (x:AV) (bs:List Box) (id:Nat):Out:=
 match src,dst with
 | some s,some d=>match d.desc,x with
  | .unsafePointer,.ptr k off=>match s.desc,Box.at bs k with
   | .pointer t,.var _ cs=>match c.ti t with
    | some j=>if j.size≠0∧off<cs.length then some (.ptr k off,.none) else .none
    | .none=> .none
   | _,_=> .none
  | .pointer u,.ptr k 0=>match s.desc,Box.at bs k with
   | .unsafePointer,.var ty cs=>match c.ti u with
    | some j=>if ty=u∧j.size=cs.length∧j.size≠0 then some (.ptr k 0,.none) else .none
    | .none=> .none
   | _,_=> .none
  | .int k,.int _ n=>some (.int k (k.wrap n),.none)
  | .string,.str s=>some (.str s,.none)
  | .string,.int _ n=>some (.str (Utf8.encode n).data.toList,.none)
  | .slice e,.str l=>match s.desc,c.descOf e with
   | .string,some (.int .u8)=>if l= [] then some (.lst (some false) 1 [],.none) else if l.length≤sliceLim then some (.osl id l.length,.new (.sl ⟨false,some e,none⟩ 1 (l.map ofByte))) else .none
   | _,_=> .none
  | .string,x=>match s.desc with
   | .slice e=>match c.descOf e,elems bs x with
    | some (.int .u8),some (_,es)=>(bytesOf es).map fun s=>(.str s,.none)
    | _,_=> .none
   | _=> .none
  | _,_=> .none
 | _,_=> .none
def makeSliceA (c:Cfg) (i:Option TI) (l m:AV) (id:Nat):Out:=
 match i,l,m with
 | some i,.int _ l,.int _ m=>match i.desc with
  | .slice e=>match c.ti e with
   | some j=>match j.zero with
    | some z=>if 0≤l∧l≤m∧m*(j.bytes+1)≤(sliceLim:Int) then match mkElem j.agg j.size z with
      | some ze=>if m=0 then some (.cap0 (some false),.none) else some (.osl id l.toNat,.new (.sl ⟨false,some e,none⟩ j.size (List.replicate l.toNat ze)))
      | .none=> .none
     else .none
    | .none=> .none
   | .none=> .none
  | _=> .none
 | _,_,_=> .none
def sizeIs (i:Option TI) (sz:Nat) (es:List AV):Bool:=
 match i with
 | some i=>sz==i.size || es.isEmpty
 | .none=>false
def slice2A (c:Cfg) (d:TypeDesc) (x:AV) (lo hi:Option AV) (bs:List Box):Out:=
 match d,x with
 | .string,.str s=>match boundA hi s.length s.length with
  | some h=>(boundA lo 0 h).map fun l=>(.str ((s.take h).drop l),.none)
  | .none=> .none
 | .slice el,.lst nl sz es=>match sizeIs (c.ti el) sz es with
  | true=>match boundA hi es.length es.length with
   | some h=>(boundA lo 0 h).map fun l=>(.lst nl sz ((es.take h).drop l),.none)
   | .none=> .none
  | false=> .none
 | .slice el,.osl k n=>match Box.at bs k with
  | .sl sh sz es=>if n=es.length∧sizeIs (c.ti el) sz es=true then match boundA hi es.length es.length with
    | some h=>(boundA lo 0 h).map fun l=>match c.cut with
     | true=>if l=0∧h=n then (.osl k n,.none) else (.osv k n l h,.none)
     | false=>(.lst .none sz ((es.take h).drop l),match sh.out,sh.link with | true,.none=> .none | _,_=> .upd k (.sl ⟨true,sh.ty,none⟩ sz es))
    | .none=> .none
   else .none
  | _=> .none
 | .slice el,.osv k n a z=>match Box.at bs k with
  | .sl _ sz es=>if n=es.length∧a≤z∧z≤n∧sizeIs (c.ti el) sz es=true then match boundA hi (z-a) (z-a) with
    | some h=>(boundA lo 0 h).map fun l=>(.osv k n (a+l) (a+h),.none)
    | .none=> .none
   else .none
  | _=> .none
 | _,_=> .none
def isZero:Option AV→Bool
 | some (.int _ n)=>n==0
 | .none=>false
 | _=>false
def slice3A (c:Cfg) (d:TypeDesc) (x:AV) (lo hi mx:Option AV) (bs:List Box):Out:=
 match d with
 | .slice el=>match elems bs x,c.ti el with
  | some _,some _=>if (lo.isNone || isZero lo)&&isZero hi&&isZero mx then some (.cap0 none,.none) else .none
  | _,_=> .none
 | _=> .none
def moveA (x:AV) (o:Nat) (bs:List Box):Out:=
 match x with
 | .ptr k off=>some (.ptr k (off+o),.none)
 | .sptr k n i off=>match Box.at bs k with
  | .sl _ _ es=>if n=es.length∧i<n then some (.sptr k n i (off+o),.none) else .none
  | _=> .none
 | .eptr cs=>some (.eptr (cs.drop o),.none)
 | _=> .none
def fieldAddrA (i:Option TI) (x:AV) (f:Nat) (bs:List Box):Out:=
 match i with
 | some i=>match i.desc with
  | .struct _=>match i.fields[f]? with
   | some (_,o,n)=>match n with
    | 0=> .none
    | _+1=>moveA x o bs
   | .none=> .none
  | _=> .none
 | .none=> .none
def fieldA (c:Cfg) (i:Option TI) (x:AV) (f:Nat):Out:=
 match i,x with
 | some i,.agg cs=>match i.desc with
  | .struct _=>match i.fields[f]? with
   | some (ty,o,_)=>(partT c ty cs o).map (·,.none)
   | .none=> .none
  | _=> .none
 | _,_=> .none
def indexAddrA (c:Cfg) (i:Option TI) (x:AV) (ix:AV) (bs:List Box):Out:=
 match i,ix with
 | some i,.int _ n=>match i.desc with
  | .array len e=>if 0≤n∧n<(len:Int) then match c.ti e with
    | some j=>moveA x (n.toNat*j.size) bs
    | .none=> .none
   else .none
  | .slice e=>match c.ti e with
   | some j=>match x with
    | .lst _ sz es=>if 0≤n∧sz=j.size then match es[n.toNat]? with
      | some v=>some (.eptr v.cells,.none)
      | .none=> .none
     else .none
    | .osl k m=>match Box.at bs k with
     | .sl _ sz es=>if 0≤n∧m=es.length∧n<(m:Int)∧sz=j.size then some (.sptr k m n.toNat 0,.none) else .none
     | _=> .none
    | .osv k m lo hi=>match Box.at bs k with
     | .sl _ sz es=>if 0≤n∧m=es.length∧hi≤m∧(lo:Int)+n<(hi:Int)∧sz=j.size then some (.sptr k m (lo+n.toNat) 0,.none) else .none
     | _=> .none
    | _=> .none
   | .none=> .none
  | _=> .none
 | _,_=> .none
def indexA (c:Cfg) (i:Option TI) (x:AV) (ix:AV):Out:=
 match i,ix with
 | some i,.int _ n=>match i.desc,x with
  | .string,.str s=>if 0≤n then match s[n.toNat]? with
    | some c=>some (.int .u8 c.toNat,.none)
    | .none=> .none
   else .none
  | .array len e,.agg cs=>if 0≤n∧n<(len:Int) then match c.ti e with
    | some j=>(partA j cs (n.toNat*j.size)).map (·,.none)
    | .none=> .none
   else .none
  | _,_=> .none
 | _,_=> .none
def extractA (x:AV) (i:Nat):Out:=
 match x with
 | .tup vs=>(vs[i]?).map (·,.none)
 | _=> .none
def aop (c:Cfg) (op:Op) (t:Env) (bs:List Box) (id:Nat):Out:=
 match op with
 | .move x | .assign x=>some (ev t x,.none)
 | .pick x a b=>pickA (ev t x) (ev t a) (ev t b)
 | .alloc e=>allocA (c.ti e) e id
 | .box e x=>boxA e (ev t x).cells id
 | .build ty parts=>buildA c (c.ti ty) (parts.toList.map fun p=>(p.1,ev t p.2))
 | .buildSlice ty len parts=>buildSliceL c (c.ti ty) len (parts.toList.map fun p=>(p.1,ev t p.2)) id bs
 | .load ty a=>loadA (c.ti ty) (ev t a) bs
 | .store ty a x=>storeA (c.ti ty) (ev t a) (ev t x).cells bs
 | .nilCheck x=>nilCheckA (ev t x)
 | .makeInterface ty x=>mkIfcA c ty (ev t x)
 | .binOp op ty x y _=>(binN c ty op y (ev t x) (ev t y)).map (·,.none)
 | .unOp op _ x=>(unA op (ev t x)).map (·,.none)
 | .convert src dst x=>convertA c (c.ti src) (c.ti dst) (ev t x) bs id
 | .makeFunc (.func f) first caps=>some (.fn f (evAll t first.toList) (evAll t caps.toList),.none)
 | .makeSlice ty l m=>makeSliceA c (c.ti ty) (ev t l) (ev t m) id
 | .slice ty x lo hi mx=>match c.ti ty with
  | some i=>match mx with
   | .none=>slice2A c i.desc (ev t x) (lo.map (ev t)) (hi.map (ev t)) bs
   | some m=>slice3A c i.desc (ev t x) (lo.map (ev t)) (hi.map (ev t)) (some (ev t m)) bs
  | .none=> .none
 | .fieldAddr sty x f=>fieldAddrA (c.ti sty) (ev t x) f bs
 | .field sty x f=>fieldA c (c.ti sty) (ev t x) f
 | .indexAddr ty x ix=>indexAddrA c (c.ti ty) (ev t x) (ev t ix) bs
 | .index ty x ix=>indexA c (c.ti ty) (ev t x) (ev t ix)
 | .extract x i=>extractA (ev t x) i
 | .makeMap ty r=>makeMapA (r.map (ev t)) (c.ti ty) id
 | .range ty x=>rangeA (c.ti ty) (ev t x) bs id
 | .next x str=>nextA (ev t x) str bs
 | .lookup ty x k ok=>lookupA c (c.ti ty) (ev t x) (ev t k) ok bs
 | .mapUpdate ty m k x=>mapUpdateA c (c.ti ty) (ev t m) (ev t k) (ev t x) bs
 | .insert ty m k x=>mapUpdateA c (c.ti ty) (ev t m) (ev t k) (ev t x) bs
 | .mapEntry ty m k=>mapEntryA c (c.ti ty) (ev t m) (ev t k) bs
 | .entryStore _ m s x=>entryStoreA (ev t m) (ev t s) (ev t x) bs
 | .entry x=>entryA (ev t x) bs
 | .call k=>match k.callee with
  | .builtin b=>builtinA c b k.argTypes.toList (evAll t k.args.toList) bs id
  | _=> .none
 | _=> .none
def asks:Op→Bool
 | .alloc _ | .box _ _ | .buildSlice _ _ _ | .makeSlice _ _ _ | .convert _ _ _ | .makeMap _ _ | .range _ _=>true
 | .call k=>match k.callee with
  | .builtin .append=>true
  | _=>false
 | _=>false
def wantedA (ops:Array Oper) (t:Env) (g:Option (Nat×Bool)):Option Bool:=
 match g with
 | .none=>some true
 | some (j,want)=>match (ops[j]?).bind (·.dst) with
  | .none=>some false
  | some d=>match t.get .any d with
   | .bool b=>some (b==want)
   | .tup _=>some false
   | _=> .none
def putA (t:Env) (d:Option Tmp) (v:AV):Env:=
 match d with
 | some i=>t.set i v
 | .none=>t
def Eff.on (e:Eff) (bs:List Box) (id:Nat):Option (List Box):=
 match e with
 | .none=>some bs
 | .new b=>match bs[id]? with
  | some .dead=>some (bs.set id b)
  | _=> .none
 | .upd k b=>some (bs.set k b)
 | .move k b=>match bs[id]? with
  | some .dead=>some ((bs.set k .gone).set id b)
  | _=> .none
 | .app b=>some (bs++ [b])
 | .eat k=>some (bs.set k .gone)
 | .all bs'=>some bs'
inductive Tgt where
 | fn (f:FuncId)
 | yld (k:Nat) (s:Site) (env:List AV)
abbrev CallF:=Tgt→List AV→List Box→Option (AV×List Box)
def apart1 (v:AV):Box→Bool
 | .sl sh _ es=>sh.out || v.apart (es.flatMap AV.cells)
 | _=>false
def apartB (v:AV) (bs:List Box):List AV→Bool
 | []=>true
 | .osl k _::r=>apart1 v (Box.at bs k)&&apartB v bs r
 | .osv k _ _ _::r=>apart1 v (Box.at bs k)&&apartB v bs r
 | _::r=>apartB v bs r
def lentBack (k:Bool) (v:AV) (args:List AV) (bs:List Box):Out:=
 match v.flat || !hasOsl args || (k&&apartB v bs args) with
 | true=>some (v,.none)
 | false=>some (v,.all (shareAll bs args))
def fresh1 (v:AV) (b:List Box):Option (Nat×Hd×Nat×List AV):=
 match v with
 | .osl k n=>match Box.at b k with
  | .sl sh sz es=>match sh.link with
   | none=>some (n,sh,sz,es)
   | some _=>none
  | _=>none
 | _=>none
theorem fresh1_eq {v:AV} {b:List Box} {n:Nat} {sh:Hd} {sz:Nat} {es:List AV} (h:fresh1 v b=some (n,sh,sz,es)): ∃k,v= .osl k n∧Box.at b k= .sl sh sz es∧sh.link=none:=by
 unfold fresh1 at h
 split at h
 ·split at h
  ·rename_i hb
   split at h
   ·rename_i hl;cases h;exact ⟨_,rfl,hb,hl⟩
   ·cases h
  ·cases h
 ·cases h
def callL (c:Cfg) (cf:CallF) (f:FuncId) (args:List AV) (bs:List Box):Out:=
 match lendAll bs args with
 | some l=>match plainAll l with
  | true=>match c.ov f with
   | some g=>match g l with
    | some v=>if v.plain=true then lentBack (c.brw f) v (leavesAll args) bs else .none
    | .none=> .none
   | .none=>match cf (.fn f) l [] with
    | some (v, [])=>if v.plain=true then lentBack (c.brw f) v (leavesAll args) bs else .none
    | some (v,x::r)=>match fresh1 v (x::r) with
     | some (n,sh,sz,es)=>match hasOsl (leavesAll args) with
      | true=>some (.osl bs.length n,.all (shareAll bs (leavesAll args)++ [.sl sh sz es]))
      | false=>some (.osl bs.length n,.app (.sl sh sz es))
     | .none=>match cf (.fn f) args bs with
      | some (v,bs')=>some (v,.all bs')
      | .none=> .none
    | .none=> .none
  | false=>match cf (.fn f) args bs with
   | some (v,bs')=>some (v,.all bs')
   | .none=> .none
 | .none=> .none
def eatA (G:Nat→Hd→Nat→List AV→List AV→Option AV) (args:List AV) (bs:List Box):Option (AV×Nat):=
 match args with
 | .osl k n::r=>match Box.at bs k with
  | .sl sh sz es=>match G n sh sz es r with
   | some v=>some (v,k)
   | .none=> .none
  | _=> .none
 | _=> .none
def callP (c:Cfg) (cf:CallF) (f:FuncId) (args:List AV) (bs:List Box):Out:=
 match c.muts f with
 | true=>match c.eat f with
  | some G=>match eatA G args bs with
   | some (v,k)=>some (v,.eat k)
   | .none=> .none
  | .none=>match cf (.fn f) args bs with
   | some (v,bs')=>some (v,.all bs')
   | .none=> .none
 | false=>callL c cf f args bs
def callA (c:Cfg) (cf:CallF) (f:FuncId) (args:List AV) (bs:List Box):Out:=
 match c.ovb f with
 | some g=>match g args bs with
  | some (v,bs')=>some (v,.all bs')
  | .none=> .none
 | .none=>callP c cf f args bs
def doOp (c:Cfg) (cf:CallF) (op:Op) (t:Env) (bs:List Box) (id:Nat):Out:=
 match op with
 | .call k=>match k.callee with
  | .value f=>match ev t f with
   | .fn g first caps=>match c.ext g with
    | some G=>match G (first++evAll t k.args.toList++caps) with
     | some v=>some (v,.none)
     | .none=> .none
    | .none=>callA c cf g (first++evAll t k.args.toList++caps) bs
   | .yld l s env=>match cf (.yld l s env) (evAll t k.args.toList) bs with
    | some (v,bs')=>some (v,.all bs')
    | .none=> .none
   | _=> .none
  | _=>aop c (.call k) t bs id
 | op=>aop c op t bs id
def next (id:Nat) (op:Op):Nat:=match asks op with
 | true=>id+1
 | false=>id
def runOps (c:Cfg) (cf:CallF) (ops:Array Oper):List Oper→Nat→Env→List Box→Option St
 | [],_,t,bs=>some {t:=t,b:=bs}
 | o::rest,id,t,bs=>
  match wantedA ops t o.guard with
  | some true=>match doOp c cf o.op t bs id with
   | some (v,e)=>match e.on bs id with
    | some bs'=>runOps c cf ops rest (next id o.op) (putA t o.dst v) bs'
    | .none=> .none
   | .none=> .none
  | some false=>runOps c cf ops rest (next id o.op) (putA t o.dst (.tup [])) bs
  | .none=> .none
def askCount:List Oper→Nat
 | []=>0
 | o::r=>(match asks o.op with | true=>1 | false=>0)+askCount r
mutual
def AV.under (n:Nat):AV→Bool
 | .ptr k _ | .sptr k _ _ _ | .osl k _ | .osv k _ _ _ | .mapv k | .itv k=>decide (k<n)
 | .agg cs=>underAll n cs
 | .tup cs=>underAll n cs
 | .fn _ a b=>underAll n a&&underAll n b
 | .yld k _ env=>decide (k<n)&&underAll n env
 | _=>true
def underAll (n:Nat):List AV→Bool
 | []=>true
 | v::r=>v.under n&&underAll n r
end
def forget (n:Nat) (v:AV):AV:=match v.under n with
 | true=>v
 | false=> .any
def forgetVal (n:Nat) (e:AV×AV×Nat):AV×AV×Nat:=(e.1,forget n e.2.1,e.2.2)
def forgetHd (n:Nat) (sh:Hd):Hd:=
 match sh.link with
 | some (_,_,k,_)=>if k<n then sh else ⟨sh.out,sh.ty,none⟩
 | none=>sh
def forgetBox (n:Nat):Box→Box
 | .var ty cs=> .var ty (cs.map (forget n))
 | .sl sh sz es=> .sl (forgetHd n sh) sz es
 | .mp es clock=> .mp (es.map (forgetVal n)) clock
 | b=>b
def St.cut (s:St) (n:Nat):St:=
 match decide (s.b.length≤n) with
 | true=>s
 | false=>{t:=s.t.map (forget n),b:=(s.b.take n).map (forgetBox n)}
mutual
def AV.hand (n:Nat) (bs:List Box):AV→Option AV
 | .osl k m=>if k<n then some (.osl k m) else match Box.at bs k with
  | .sl _ sz es=>if m=es.length then some (.lst .none sz es) else .none
  | _=> .none
 | .osv k m lo hi=>if k<n then some (.osv k m lo hi) else match Box.at bs k with
  | .sl _ sz es=>if m=es.length∧lo≤hi∧hi≤m then some (.lst .none sz ((es.take hi).drop lo)) else .none
  | _=> .none
 | .agg cs=>(handAll n bs cs).map .agg
 | .tup cs=>(handAll n bs cs).map .tup
 | .cap0 nl=>some (.lst nl 0 [])
 | v=>some v
def handAll (n:Nat) (bs:List Box):List AV→Option (List AV)
 | []=>some []
 | v::r=>match v.hand n bs,handAll n bs r with
  | some a,some l=>some (a::l)
  | _,_=> .none
end
def resultA (c:Cfg) (t:Env) (bs:List Box):ResultVar→Option AV
 | .tmp i=>some (t.get .any i)
 | .cell a ty=>match t.get .any a with
  | .ptr k off=>match Box.at bs k,c.ti ty with
   | .var _ cs,some i=>partA i cs off
   | _,_=> .none
  | _=> .none
def resultsA (c:Cfg) (t:Env) (bs:List Box):List ResultVar→Option (List AV)
 | []=>some []
 | r::l=>match resultA c t bs r,resultsA c t bs l with
  | some a,some b=>some (a::b)
  | _,_=> .none
def oneOr:List AV→AV
 | [v]=>v
 | l=> .tup l
def handOver (n:Nat) (s:St) (v:AV):Option (AV×List Box):=
 match v.hand n s.b with
 | some v'=>match v'.under n with
  | true=>some (v',((s.cut n).b))
  | false=>some (v,s.b)
 | .none=> .none
def putArgs:Env→Nat→List AV→Env
 | t,_, []=>t
 | t,i,v::r=>putArgs (t.set i v) (i+1) r
def start (n:Nat) (args:List AV):Env:=putArgs (Tr.mk .any 24 n) 0 args
def maskOf (m:List Nat) (o:Oper):Nat:=
 o.after.toList.foldl (fun s e=>match Region.binds .any e with | true=>s ||| (2^e.on ||| m.getD e.on 0) | false=>s) 0
def befs:List Oper→List Nat→List Nat
 | [],m=>m
 | o::r,m=>befs r (m++ [maskOf m o])
def bef (ops:Array Oper):List Nat:=befs ops.toList []
def ordered (b:List Nat) (i j:Nat):Bool:=(b.getD j 0).testBit i
def edgesBack:List Oper→Nat→Bool
 | [],_=>true
 | o::r,k=>(o.after.toList.all fun e=> !Region.binds .any e || decide (e.on<k))&&edgesBack r (k+1)
def noSel:Op→Bool
 | .select _ _=>false
 | _=>true
def pairsOk (ops:Array Oper) (b:List Nat) (o:Oper) (i:Nat):List Oper→Nat→Bool
 | [],_=>true
 | p::r,j=>(ordered b i j || o.apart ops p)&&pairsOk ops b o i r (j+1)
def allPairs (ops:Array Oper) (b:List Nat):List Oper→Nat→Bool
 | [],_=>true
 | o::r,i=>noSel o.op&&pairsOk ops b o i r (i+1)&&allPairs ops b r (i+1)
def drawOk (ops:Array Oper):Bool:=edgesBack ops.toList 0&&allPairs ops (bef ops) ops.toList 0
def blind:Op→Bool
 | .move _ | .assign _ | .pick _ _ _ | .build _ _ | .binOp _ _ _ _ _ | .unOp _ _ _ | .index _ _ _ | .field _ _ _ | .extract _ _ | .nilCheck _=>true
 | _=>false
def blindAt (ops:Array Oper) (j:Nat):Bool:=
 match ops[j]? with
 | some o=>blind o.op
 | none=>true
def aloneB (ops:Array Oper) (b:List Nat) (i:Nat):Nat→Bool
 | 0=>true
 | j+1=>(j==i || ordered b i j || ordered b j i || blindAt ops j)&&aloneB ops b i j
def alone (ops:Array Oper) (i:Nat):Bool:=aloneB ops (bef ops) i ops.size
def idOf:List Oper→Nat→Nat→Nat
 | _,0,base=>base
 | [],_+1,base=>base
 | o::r,i+1,base=>idOf r i (next base o.op)
def maskIds (b:List Nat) (i:Nat):List Oper→Nat→Nat→List Nat
 | [],_,_=> []
 | o::r,j,id=>match asks o.op&& !ordered b j i with
  | true=>id::maskIds b i r (j+1) (next id o.op)
  | false=>maskIds b i r (j+1) (next id o.op)
def killAll:List Nat→List Box→List Box
 | [],bs=>bs
 | k::r,bs=>killAll r (bs.set k .dead)
def maskB (ops:Array Oper) (base i:Nat) (bs:List Box):List Box:=killAll (maskIds (bef ops) i ops.toList 0 base) bs
def isStore:Op→Bool
 | .store _ _ _=>true
 | _=>false
def isGrow:Op→Bool
 | .call ⟨.builtin .append,_,_⟩=>true
 | .slice _ _ _ _ .none=>true
 | _=>false
def okBox (op:Op):Box→Bool
 | .var _ _=>isStore op
 | .sl _ _ _=>isGrow op
 | _=>false
def loadTmp:Op→Option Nat
 | .load _ (.tmp p)=>some p
 | .slice _ (.tmp p) _ _ .none=>some p
 | _=>none
def isLen:Op→Bool
 | .call ⟨.builtin .len,_,_⟩=>true
 | _=>false
def isIdx:Op→Bool
 | .indexAddr _ _ _=>true
 | _=>false
def opTmps (o:Op):List Nat:=o.operands.toList.filterMap fun | .tmp i=>some i | _=>none
def unsetAt (ops:Array Oper) (j q:Nat):List Oper→Nat→Bool
 | [],_=>true
 | o::r,k=>(o.dst !=some q || k==j || ordered (bef ops) j k || ordered (bef ops) k j)&&unsetAt ops j q r (k+1)
def rootN (ops:Array Oper) (j:Nat):Nat→Nat→Option Nat
 | 0,_=>none
 | n+1,p=>match ops.toList.filter fun o=>o.dst==some p with
  | []=>some p
  | [o]=>match o.op with
   | .move (.tmp q)=>match unsetAt ops j q ops.toList 0 with
    | true=>some q
    | false=>none
   | .fieldAddr _ (.tmp q) _=>rootN ops j n q
   | .indexAddr _ (.tmp q) (.const _)=>rootN ops j n q
   | _=>none
  | _=>none
def rootTmp (ops:Array Oper) (j p:Nat):Option Nat:=rootN ops j 4 p
def loadRoot (ops:Array Oper) (j:Nat) (op:Op):Option Nat:=
 match loadTmp op with
 | some p=>rootTmp ops j p
 | none=>none
def nearOf (ops:Array Oper) (b:List Nat) (i:Nat):List Oper→Nat→List Nat
 | [],_=> []
 | o::r,j=>match j==i || ordered b i j || ordered b j i,loadRoot ops j o.op with
  | false,some p=>p::nearOf ops b i r (j+1)
  | _,_=>nearOf ops b i r (j+1)
def nears (ops:Array Oper) (i:Nat):List Nat:=nearOf ops (bef ops) i ops.toList 0
def mateOk (ops:Array Oper) (j:Nat) (op o:Op):Bool:=blind o || ((isLen o || isIdx o)&&isStore op) || (match loadRoot ops j o with | some q=> !(opTmps op).contains q | none=>false)
def matesOk (ops:Array Oper) (b:List Nat) (i:Nat) (op:Op):List Oper→Nat→Bool
 | [],_=>true
 | o::r,j=>(j==i || ordered b i j || ordered b j i || mateOk ops j op o.op)&&matesOk ops b i op r (j+1)
def storeOk (ops:Array Oper) (i:Nat) (op:Op):Bool:=
 (isStore op || isGrow op)&&matesOk ops (bef ops) i op ops.toList 0&&(nears ops i).all fun p=>unsetAt ops i p ops.toList 0
def calmK:AV→Option (Option Nat)
 | .ptr k _=>some (some k)
 | .sptr k _ _ _=>some (some k)
 | .osl _ _=>some .none
 | .osv _ _ _ _=>some .none
 | _=> .none
def calmV (k:Nat) (v:AV):Bool:=
 match calmK v with
 | .none=>true
 | some .none=>false
 | some (some k')=>k' !=k
def growFrom (ops:Array Oper):List Oper→Nat→Bool
 | [],_=>false
 | o::r,i=>(!alone ops i&&storeOk ops i o.op) || growFrom ops r (i+1)
def growAny (ops:Array Oper):Bool:=growFrom ops ops.toList 0
def isCallV:Op→Bool
 | .call k=>match k.callee with
  | .value _=>true
  | _=>false
 | _=>false
def ownCall (c:Cfg):Op→Bool
 | .call k=>match k.callee with
  | .value (.func f)=>c.own f
  | _=>false
 | _=>false
def peekTmp:Op→Option Nat
 | .load _ (.tmp p)=>some p
 | .fieldAddr _ (.tmp p) _=>some p
 | .call ⟨.builtin .len,args,_⟩=>match args.toList with
  | [.tmp p]=>some p
  | _=>none
 | _=>none
def peekRoot (ops:Array Oper) (j:Nat) (op:Op):Option Nat:=
 match peekTmp op with
 | some p=>rootTmp ops j p
 | none=>none
def peekOf (ops:Array Oper) (b:List Nat) (i:Nat):List Oper→Nat→List Nat
 | [],_=> []
 | o::r,j=>match j==i || ordered b i j || ordered b j i,peekRoot ops j o.op with
  | false,some p=>p::peekOf ops b i r (j+1)
  | _,_=>peekOf ops b i r (j+1)
def peeks (ops:Array Oper) (i:Nat):List Nat:=peekOf ops (bef ops) i ops.toList 0
def isAlloc:Op→Bool
 | .alloc _=>true
 | _=>false
def pmatesOk (ops:Array Oper) (b:List Nat) (i:Nat):List Oper→Nat→Bool
 | [],_=>true
 | o::r,j=>(j==i || ordered b i j || ordered b j i || blind o.op || isAlloc o.op || (peekRoot ops j o.op).isSome)&&pmatesOk ops b i r (j+1)
def appOk (c:Cfg) (ops:Array Oper) (i:Nat) (op:Op):Bool:=
 ownCall c op&&pmatesOk ops (bef ops) i ops.toList 0&&(peeks ops i).all fun p=>ops.toList.all fun o=>o.dst !=some p
def isEat (c:Cfg):Op→Bool
 | .call k=>match k.callee with
  | .value (.func f)=>(c.eat f).isSome
  | _=>false
 | _=>false
def eatOk (c:Cfg) (ops:Array Oper) (i:Nat) (op:Op):Bool:=
 isEat c op&&pmatesOk ops (bef ops) i ops.toList 0&&(peeks ops i).all fun p=>(ops.toList.all fun o=>o.dst !=some p)&& !(opTmps op).contains p
def lookOk (c:Cfg) (ops:Array Oper) (i:Nat) (op:Op):Bool:=appOk c ops i op || eatOk c ops i op
def lowV (n:Nat):AV→Bool
 | .ptr k _=>decide (k<n)
 | .sptr k _ _ _=>decide (k<n)
 | .osl k _=>decide (k<n)
 | .osv k _ _ _=>decide (k<n)
 | .mapv k=>decide (k<n)
 | .itv k=>decide (k<n)
 | _=>true
def softC (cf:CallF):CallF:=fun f args bs=>
 match f,bs with
 | .fn f, []=>match cf (.fn f) args [] with
  | some (v, [])=>some (v, [])
  | some (v,x::r)=>match v.hand 0 (x::r) with
   | some v'=>match v'.under 0 with
    | true=>some (v', [])
    | false=>some (v,x::r)
   | none=>none
  | none=>none
 | f,bs=>cf f args bs
def boxOf:AV→Option Nat
 | .ptr k _=>some k
 | .sptr k _ _ _=>some k
 | .osl k _=>some k
 | .osv k _ _ _=>some k
 | .mapv k=>some k
 | .itv k=>some k
 | _=>none
def appFrom (c:Cfg) (ops:Array Oper):List Oper→Nat→Bool
 | [],_=>false
 | o::r,i=>(!alone ops i&&lookOk c ops i o.op) || appFrom c ops r (i+1)
def offV (k:Nat) (v:AV):Bool:=boxOf v !=some k
def appAny (c:Cfg) (ops:Array Oper):Bool:=appFrom c ops ops.toList 0
def seeTmp (op:Op):Option Nat:=
 match peekTmp op with
 | some p=>some p
 | none=>loadTmp op
def rootOk (c:Cfg) (ops:Array Oper) (j:Nat) (op:Op) (t:Env):Bool:=
 match seeTmp op with
 | none=>true
 | some p=>match rootTmp ops j p with
  | none=>true
  | some q=>(!appAny c ops || boxOf (t.get .any p)==boxOf (t.get .any q))&&(!growAny ops || calmK (t.get .any p)==calmK (t.get .any q))
def softF (cf:CallF):Bool→CallF
 | true=>cf
 | false=>softC cf
def stepO (c:Cfg) (cf:CallF) (ops:Array Oper) (base i:Nat) (o:Oper) (s:St):Option St:=
 match wantedA ops s.t o.guard with
 | some true=>match alone ops i with
  | true=>match doOp c cf o.op s.t s.b (idOf ops.toList i base) with
   | some (v,e)=>match e.on s.b (idOf ops.toList i base) with
    | some bs'=>some {t:=putA s.t o.dst v,b:=bs'}
    | .none=> .none
   | .none=> .none
  | false=>match doOp c (softF cf (appOk c ops i o.op)) o.op s.t (maskB ops base i s.b) (idOf ops.toList i base) with
   | some (v,.none)=>match rootOk c ops i o.op s.t with
    | true=>some {t:=putA s.t o.dst v,b:=s.b}
    | false=> .none
   | some (v,.new x)=>match asks o.op,s.b[idOf ops.toList i base]? with
    | true,some .dead=>some {t:=putA s.t o.dst v,b:=s.b.set (idOf ops.toList i base) x}
    | _,_=> .none
   | some (v,.upd k x)=>match storeOk ops i o.op&&okBox o.op x&&rootOk c ops i o.op s.t&&(nears ops i).all fun p=>calmV k (s.t.get .any p) with
    | true=>some {t:=putA s.t o.dst v,b:=s.b.set k x}
    | false=> .none
   | some (v,.app x)=>match appOk c ops i o.op&&(peeks ops i).all fun p=>lowV s.b.length (s.t.get .any p) with
    | true=>some {t:=putA s.t o.dst v,b:=s.b++ [x]}
    | false=> .none
   | some (v,.eat k)=>match eatOk c ops i o.op&&(peeks ops i).all fun p=>offV k (s.t.get .any p) with
    | true=>some {t:=putA s.t o.dst v,b:=s.b.set k .gone}
    | false=> .none
   | _=> .none
 | some false=>some {t:=putA s.t o.dst (.tup []),b:=s.b}
 | .none=> .none
def runD (c:Cfg) (cf:CallF) (ops:Array Oper) (base:Nat):List Oper→Nat→St→Option St
 | [],_,s=>some s
 | o::r,i,s=>match stepO c cf ops base i o s with
  | some s'=>runD c cf ops base r (i+1) s'
  | .none=> .none
def endCall (c:Cfg) (fn:Func) (n:Nat) (r:Option (Ex×St)):Option (AV×List Box):=
 match r with
 | some (.normal,s') | some (.ret,s')=>match resultsA c s'.t s'.b fn.results.toList with
  | some vs=>handOver n s' (oneOr vs)
  | none=>none
 | _=>none
def callBody (c:Cfg) (ex:Code→St→Option (Ex×St)):CallF:=fun f args bs=>
 match f with
 | .yld _ _ _=>none
 | .fn f=>match c.fn.get none f with
  | some fn=>match fn.body with
   | some a=>endCall c fn bs.length (ex a {t:=start fn.ntmps args,b:=bs})
   | none=>none
  | none=>none
def region (c:Cfg) (cf:CallF) (ops:Array Oper) (draw:Bool) (s:St):Option St:=
 match draw with
 | false=>runOps c cf ops ops.toList s.b.length s.t (s.b++List.replicate (askCount ops.toList) .dead)
 | true=>match drawOk ops with
  | true=>runD c cf ops s.b.length ops.toList 0 {s with b:=s.b++List.replicate (askCount ops.toList) .dead}
  | false=>none
def thenX (r:Option (Ex×St)) (f:St→Option (Ex×St)):Option (Ex×St):=
 match r with
 | some (.normal,s)=>f s
 | r=>r
def blockX (id:Nat) (r:Option (Ex×St)):Option (Ex×St):=
 match r with
 | some (.exit i,s)=>if i=id then some (.normal,s) else some (.exit i,s)
 | r=>r
def condX (v:AV) (a b:Option (Ex×St)):Option (Ex×St):=
 match v with
 | .bool true=>a
 | .bool false=>b
 | _=>none
def exec (c:Cfg):Nat→Code→St→Option (Ex×St)
 | 0,_,_=>none
 | n+1,code,s=>
  match code with
  | .skip=>some (.normal,s)
  | .label _=>some (.normal,s)
  | .ret=>some (.ret,s)
  | .exit id=>some (.exit id,s)
  | .seq a b=>thenX (exec c n a s) (exec c n b)
  | .cond x a b=>condX (ev s.t x) (exec c n a s) (exec c n b s)
  | .block id a=>blockX id (exec c n a s)
  | .loop a=>thenX (exec c n a s) fun s'=>exec c n (.loop a) (s'.cut s.b.length)
  | .region _ ops draw=>(region c (callBody c (exec c n)) ops draw s).map (Ex.normal,·)
  | _=>none
def call (c:Cfg) (n:Nat):CallF:=callBody c (exec c n)
end Go.Am
