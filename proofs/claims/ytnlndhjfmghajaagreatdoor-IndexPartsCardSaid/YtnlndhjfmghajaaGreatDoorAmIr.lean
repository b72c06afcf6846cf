/- A plainer form of the machine's code: -/
import Derived.Test.YtnlndhjfmghajaaGreatDoorAmRun
import Derived.Test.YtnlndhjfmghajaaGreatDoorAmAlt
set_option linter.all false
namespace Go.Am
inductive E where
 | var (i:Nat)
 | cst (v:AV)
 | bin (op:BinOp) (ty:TypeId) (x y:E)
 | un (op:UnOp) (x:E)
 | pick (p a b:E)
 | guard (g:E) (want:Bool) (e:E)
 | and (p b:E)
 | or (p b:E)
 | index (ty:TypeId) (x i:E)
 | field (sty:TypeId) (x:E) (f:Nat)
 | extract (x:E) (i:Nat)
 | conv (src dst:TypeId) (x:E)
 | toInt (k:IntKind) (x:E)
 | len (ty:TypeId) (x:E)
 | lenS (x:E)
 | slA (x:E)
 | slL (x lo:E)
 | slH (x hi:E)
 | slB (x lo hi:E)
 | load (ty:TypeId) (x:E)
 | faddr (sty:TypeId) (x:E) (f:Nat)
 | iaddr (ty:TypeId) (x i:E)
 | nilck (x:E)
 deriving Inhabited
def out1:Out→Option AV
 | some (v,.none)=>some v
 | _=>none
def sliceS (x:AV) (lo hi:Option AV):Option AV:=
 match x with
 | .str s=>match boundA hi s.length s.length with
  | some h=>match boundA lo 0 h with
   | some l=>some (.str ((s.take h).drop l))
   | none=>none
  | none=>none
 | _=>none
def lenS1 (x:AV):Option AV:=
 match x with
 | .str s=>some (.int .i64 s.length)
 | _=>none
def toInt1 (k:IntKind) (x:AV):Option AV:=
 match x with
 | .int _ n=>some (.int k (k.wrap n))
 | _=>none
def lenT (c:Cfg) (ty:TypeId) (x:AV) (bs:List Box):Out:=
 match c.ti ty with
 | some i=>lenA i.desc x bs
 | .none=> .none
def guardV (g:Option AV) (want:Bool) (e:Option AV):Option AV:=
 match g with
 | some (.bool b)=>match b==want with
  | true=>e
  | false=>some (.tup [])
 | some (.tup _)=>some (.tup [])
 | _=>none
def andV (p b:Option AV):Option AV:=
 match p with
 | some (.bool true)=>b
 | some (.bool false)=>some (.bool false)
 | _=>none
def orV (p b:Option AV):Option AV:=
 match p with
 | some (.bool true)=>some (.bool true)
 | some (.bool false)=>b
 | _=>none
def ap1 (x:Option AV) (f:AV→Option AV):Option AV:=
 match x with
 | some a=>f a
 | none=>none
def ap2 (x y:Option AV) (f:AV→AV→Option AV):Option AV:=
 match x with
 | some a=>match y with
  | some b=>f a b
  | none=>none
 | none=>none
def ap3 (x y z:Option AV) (f:AV→AV→AV→Option AV):Option AV:=
 match x with
 | some a=>match y with
  | some b=>match z with
   | some d=>f a b d
   | none=>none
  | none=>none
 | none=>none
def vget (env:List (Option AV)) (i:Nat):Option AV:=env.getD i none
def evE (c:Cfg) (env:List (Option AV)) (bs:List Box):E→Option AV
 | .var i=>vget env i
 | .cst v=>some v
 | .bin op ty x y=>ap2 (evE c env bs x) (evE c env bs y) fun a b=>binA c ty op a b
 | .un op x=>ap1 (evE c env bs x) fun a=>unA op a
 | .pick p x y=>ap3 (evE c env bs p) (evE c env bs x) (evE c env bs y) fun p a b=>out1 (pickA p a b)
 | .guard g w e=>guardV (evE c env bs g) w (evE c env bs e)
 | .and p x=>andV (evE c env bs p) (evE c env bs x)
 | .or p x=>orV (evE c env bs p) (evE c env bs x)
 | .index ty x y=>ap2 (evE c env bs x) (evE c env bs y) fun a b=>out1 (indexA c (c.ti ty) a b)
 | .field ty x f=>ap1 (evE c env bs x) fun a=>out1 (fieldA c (c.ti ty) a f)
 | .extract x i=>ap1 (evE c env bs x) fun a=>out1 (extractA a i)
 | .conv s d x=>ap1 (evE c env bs x) fun a=>out1 (convertA c (c.ti s) (c.ti d) a bs 0)
 | .toInt k x=>ap1 (evE c env bs x) fun a=>toInt1 k a
 | .len ty x=>ap1 (evE c env bs x) fun a=>out1 (lenT c ty a bs)
 | .lenS x=>ap1 (evE c env bs x) fun a=>lenS1 a
 | .slA x=>ap1 (evE c env bs x) fun a=>sliceS a none none
 | .slL x y=>ap2 (evE c env bs x) (evE c env bs y) fun a l=>sliceS a (some l) none
 | .slH x z=>ap2 (evE c env bs x) (evE c env bs z) fun a h=>sliceS a none (some h)
 | .slB x y z=>ap3 (evE c env bs x) (evE c env bs y) (evE c env bs z) fun a l h=>sliceS a (some l) (some h)
 | .load ty x=>ap1 (evE c env bs x) fun a=>out1 (loadA (c.ti ty) a bs)
 | .faddr ty x f=>ap1 (evE c env bs x) fun a=>out1 (fieldAddrA (c.ti ty) a f bs)
 | .iaddr ty x y=>ap2 (evE c env bs x) (evE c env bs y) fun a b=>out1 (indexAddrA c (c.ti ty) a b bs)
 | .nilck x=>ap1 (evE c env bs x) fun a=>out1 (nilCheckA a)
def E.reads:E→Bool
 | .var _ | .cst _=>false
 | .bin _ _ x y=>x.reads || y.reads
 | .un _ x=>x.reads
 | .pick p x y=>p.reads || x.reads || y.reads
 | .guard g _ e=>g.reads || e.reads
 | .and p x=>p.reads || x.reads
 | .or p x=>p.reads || x.reads
 | .index _ x y=>x.reads || y.reads
 | .field _ x _=>x.reads
 | .extract x _=>x.reads
 | .toInt _ x=>x.reads
 | .lenS x=>x.reads
 | .slA x=>x.reads
 | .slL x y=>x.reads || y.reads
 | .slH x y=>x.reads || y.reads
 | .slB x y z=>x.reads || y.reads || z.reads
 | .nilck x=>x.reads
 | .conv _ _ _ | .len _ _ | .load _ _ | .faddr _ _ _ | .iaddr _ _ _=>true
def E.looks (i:Nat):E→Bool
 | .var j=>i==j
 | .cst _=>false
 | .bin _ _ x y=>x.looks i || y.looks i
 | .un _ x=>x.looks i
 | .pick p x y=>p.looks i || x.looks i || y.looks i
 | .guard g _ e=>g.looks i || e.looks i
 | .and p x=>p.looks i || x.looks i
 | .or p x=>p.looks i || x.looks i
 | .index _ x y=>x.looks i || y.looks i
 | .field _ x _=>x.looks i
 | .extract x _=>x.looks i
 | .conv _ _ x=>x.looks i
 | .toInt _ x=>x.looks i
 | .len _ x=>x.looks i
 | .lenS x=>x.looks i
 | .slA x=>x.looks i
 | .slL x y=>x.looks i || y.looks i
 | .slH x y=>x.looks i || y.looks i
 | .slB x y z=>x.looks i || y.looks i || z.looks i
 | .load _ x=>x.looks i
 | .faddr _ x _=>x.looks i
 | .iaddr _ x y=>x.looks i || y.looks i
 | .nilck x=>x.looks i
def look (vs:List (Nat×AV)) (i:Nat):AV:=
 match vs with
 | []=> .any
 | (j,v)::r=>if i=j then v else look r i
def opv (vs:List (Nat×AV)):Operand→AV
 | .tmp i=>look vs i
 | .const v=>ofVal v
 | .func f=> .fn f [] []
 | .global _=> .any
def aopE (c:Cfg) (op:Op) (φ:Operand→AV) (bs:List Box) (id:Nat):Out:=
 match op with
 | .move x | .assign x=>some (φ x,.none)
 | .pick x a b=>pickA (φ x) (φ a) (φ b)
 | .alloc e=>allocA (c.ti e) e id
 | .box e x=>boxA e (φ x).cells id
 | .build ty parts=>buildA c (c.ti ty) (parts.toList.map fun p=>(p.1,φ p.2))
 | .buildSlice ty len parts=>buildSliceL c (c.ti ty) len (parts.toList.map fun p=>(p.1,φ p.2)) id bs
 | .load ty a=>loadA (c.ti ty) (φ a) bs
 | .store ty a x=>storeA (c.ti ty) (φ a) (φ x).cells bs
 | .nilCheck x=>nilCheckA (φ x)
 | .makeInterface ty x=>mkIfcA c ty (φ x)
 | .binOp op ty x y _=>(binN c ty op y (φ x) (φ y)).map (·,.none)
 | .unOp op _ x=>(unA op (φ x)).map (·,.none)
 | .convert src dst x=>convertA c (c.ti src) (c.ti dst) (φ x) bs id
 | .makeFunc (.func f) first caps=>some (.fn f (first.toList.map φ) (caps.toList.map φ),.none)
 | .makeSlice ty l m=>makeSliceA c (c.ti ty) (φ l) (φ m) id
 | .slice ty x lo hi mx=>match c.ti ty with
  | some i=>match mx with
   | .none=>slice2A c i.desc (φ x) (lo.map φ) (hi.map φ) bs
   | some m=>slice3A c i.desc (φ x) (lo.map φ) (hi.map φ) (some (φ m)) bs
  | .none=> .none
 | .fieldAddr sty x f=>fieldAddrA (c.ti sty) (φ x) f bs
 | .field sty x f=>fieldA c (c.ti sty) (φ x) f
 | .indexAddr ty x ix=>indexAddrA c (c.ti ty) (φ x) (φ ix) bs
 | .index ty x ix=>indexA c (c.ti ty) (φ x) (φ ix)
 | .extract x i=>extractA (φ x) i
 | .makeMap ty r=>makeMapA (r.map φ) (c.ti ty) id
 | .range ty x=>rangeA (c.ti ty) (φ x) bs id
 | .next x str=>nextA (φ x) str bs
 | .lookup ty x k ok=>lookupA c (c.ti ty) (φ x) (φ k) ok bs
 | .mapUpdate ty m k x=>mapUpdateA c (c.ti ty) (φ m) (φ k) (φ x) bs
 | .insert ty m k x=>mapUpdateA c (c.ti ty) (φ m) (φ k) (φ x) bs
 | .mapEntry ty m k=>mapEntryA c (c.ti ty) (φ m) (φ k) bs
 | .entryStore _ m s x=>entryStoreA (φ m) (φ s) (φ x) bs
 | .entry x=>entryA (φ x) bs
 | .call k=>match k.callee with
  | .builtin b=>builtinA c b k.argTypes.toList (k.args.toList.map φ) bs id
  | _=> .none
 | _=> .none
def doOpE (c:Cfg) (cf:CallF) (op:Op) (φ:Operand→AV) (bs:List Box) (id:Nat):Out:=
 match op with
 | .call k=>match k.callee with
  | .value f=>match φ f with
   | .fn g first caps=>match c.ext g with
    | some G=>match G (first++k.args.toList.map φ++caps) with
     | some v=>some (v,.none)
     | .none=> .none
    | .none=>callA c cf g (first++k.args.toList.map φ++caps) bs
   | .yld l s env=>match cf (.yld l s env) (k.args.toList.map φ) bs with
    | some (v,bs')=>some (v,.all bs')
    | .none=> .none
   | _=> .none
  | _=>aopE c (.call k) φ bs id
 | op=>aopE c op φ bs id
inductive It where
 | par (l:List (Nat×E))
 | eff (mask:Option (List Nat)) (k:Nat) (d:Option Nat) (g:Option (E×Bool)) (o:Op) (xs:List (Nat×E))
def parV (c:Cfg) (env:List (Option AV)) (bs:List Box):List (Nat×E)→Option (List (Nat×AV))
 | []=>some []
 | (i,e)::r=>match evE c env bs e with
  | some v=>match parV c env bs r with
   | some l=>some ((i,v)::l)
   | none=>none
  | none=>none
def setAll (env:List (Option AV)):List (Nat×AV)→List (Option AV)
 | []=>env
 | (i,v)::r=>setAll (env.set i (some v)) r
def setO (env:List (Option AV)) (d:Option Nat) (v:AV):List (Option AV):=
 match d with
 | some i=>env.set i (some v)
 | none=>env
def wantV (g:Option AV) (want:Bool):Option Bool:=
 match g with
 | some (.bool b)=>some (b==want)
 | some (.tup _)=>some false
 | _=>none
def wantI (c:Cfg) (env:List (Option AV)) (bs:List Box) (g:Option (E×Bool)):Option Bool:=
 match g with
 | none=>some true
 | some (e,w)=>wantV (evE c env bs e) w
def calmI (o:Op) (k:Nat) (vs:List (Nat×AV)):Bool:=vs.all fun p=>(opTmps o).contains p.1 || calmV k p.2
def softI (md:Nat) (o:Op) (id:Nat) (vs:List (Nat×AV)) (bs:List Box) (r:Out):Option (AV×List Box):=
 match r with
 | some (v,.none)=>some (v,bs)
 | some (v,.new x)=>match asks o with
  | true=>match bs[id]? with
   | some .dead=>some (v,bs.set id x)
   | _=>none
  | false=>none
 | some (v,.upd k (.var ty cs))=>match isStore o&&calmI o k vs with
  | true=>some (v,bs.set k (.var ty cs))
  | false=>none
 | some (v,.upd k (.sl sh sz es))=>match md==1&&calmI o k vs with
  | true=>some (v,bs.set k (.sl sh sz es))
  | false=>none
 | some (v,.app x)=>match md==2&&vs.all fun p=>lowV bs.length p.2 with
  | true=>some (v,bs++ [x])
  | false=>none
 | some (v,.eat k)=>match md==3&&vs.all fun p=>(opTmps o).contains p.1 || offV k p.2 with
  | true=>some (v,bs.set k .gone)
  | false=>none
 | _=>none
def hardI (id:Nat) (bs:List Box) (r:Out):Option (AV×List Box):=
 match r with
 | some (v,e)=>match e.on bs id with
  | some bs'=>some (v,bs')
  | none=>none
 | none=>none
def effI (c:Cfg) (cf:CallF) (base:Nat) (mask:Option (List Nat)) (k:Nat) (o:Op) (vs:List (Nat×AV)) (bs:List Box):Option (AV×List Box):=
 match mask with
 | none=>hardI (base+k) bs (doOpE c cf o (opv vs) bs (base+k))
 | some ms=>softI (ms.headD 0) o (base+k) vs bs (doOpE c (softF cf (ms.headD 0==2)) o (opv vs) (killAll (ms.tail.map (base+ ·)) bs) (base+k))
def runIts (c:Cfg) (cf:CallF) (base:Nat) (kl:List Nat):List It→List (Option AV)→List Box→Option (List (Option AV)×List Box)
 | [],env,bs=>some (env,bs)
 | .par l::r,env,bs=>match parV c env (killAll (kl.map (base+ ·)) bs) l with
  | some vs=>runIts c cf base kl r (setAll env vs) bs
  | none=>none
 | .eff mask k d g o xs::r,env,bs=>match wantI c env (killAll (kl.map (base+ ·)) bs) g with
  | some true=>match parV c env (killAll (kl.map (base+ ·)) bs) xs with
   | some vs=>match effI c cf base mask k o vs bs with
    | some (v,bs')=>runIts c cf base kl r (setO env d v) bs'
    | none=>none
   | none=>none
  | some false=>runIts c cf base kl r (setO env d (.tup [])) bs
  | none=>none
structure Own where
 slot:Nat
 cell:Option Nat
 el:TypeId
 sz:Nat
inductive IR where
 | skip | ret
 | own (l:List Own)
 | stuck
 | exit (i:Nat)
 | seq (a b:IR)
 | block (i:Nat) (a:IR)
 | reg (n:Nat) (kl:List Nat) (its:List It)
 | cond (x:Nat) (a b:IR)
 | loop (kill:List Nat) (a:IR)
 | rng (x:Nat) (s:Site)
 | nxt (x k n:Nat) (its:List It)
 | alt (l:List (Nat×List Nat×List It))
def lookE (σ:List (Nat×E)) (i:Nat):Option E:=
 match σ with
 | []=>none
 | (j,e)::r=>if i=j then some e else lookE r i
def resT (keep:List Nat) (σ:List (Nat×E)) (i:Nat):Option E:=
 match lookE σ i with
 | some e=>some e
 | none=>(posOf keep i).map .var
def resO (keep:List Nat) (σ:List (Nat×E)):Operand→Option E
 | .tmp i=>resT keep σ i
 | .const v=>some (.cst (ofVal v))
 | .func f=>some (.cst (.fn f [] []))
 | .global _=>none
def bind1 (x:Option E) (f:E→E):Option E:=x.map f
def bind2 (x y:Option E) (f:E→E→E):Option E:=
 match x,y with
 | some a,some b=>some (f a b)
 | _,_=>none
def bind3 (x y z:Option E) (f:E→E→E→E):Option E:=
 match x,y,z with
 | some a,some b,some d=>some (f a b d)
 | _,_,_=>none
def sameL:List UInt8→List UInt8→Bool
 | [], []=>true
 | a::l,b::m=>a==b&&sameL l m
 | _,_=>false
def sameAV:AV→AV→Bool
 | .int k n,.int k' n'=>k==k'&&n==n'
 | .bool a,.bool b=>a==b
 | .str a,.str b=>sameL a b
 | .nilp,.nilp=>true
 | _,_=>false
def sameE:E→E→Bool
 | .var i,.var j=>i==j
 | .cst v,.cst w=>sameAV v w
 | .bin o t x y,.bin o' t' x' y'=>o==o'&&t==t'&&sameE x x'&&sameE y y'
 | .un o x,.un o' x'=>o==o'&&sameE x x'
 | .pick p x y,.pick p' x' y'=>sameE p p'&&sameE x x'&&sameE y y'
 | .guard g w e,.guard g' w' e'=>sameE g g'&&w==w'&&sameE e e'
 | .and p x,.and p' x'=>sameE p p'&&sameE x x'
 | .or p x,.or p' x'=>sameE p p'&&sameE x x'
 | .index t x y,.index t' x' y'=>t==t'&&sameE x x'&&sameE y y'
 | .field t x f,.field t' x' f'=>t==t'&&sameE x x'&&f==f'
 | .extract x f,.extract x' f'=>sameE x x'&&f==f'
 | .conv s d x,.conv s' d' x'=>s==s'&&d==d'&&sameE x x'
 | .toInt k x,.toInt k' x'=>k==k'&&sameE x x'
 | .len t x,.len t' x'=>t==t'&&sameE x x'
 | .lenS x,.lenS x'=>sameE x x'
 | .slA x,.slA x'=>sameE x x'
 | .slL x y,.slL x' y'=>sameE x x'&&sameE y y'
 | .slH x y,.slH x' y'=>sameE x x'&&sameE y y'
 | .slB x y z,.slB x' y' z'=>sameE x x'&&sameE y y'&&sameE z z'
 | .load t x,.load t' x'=>t==t'&&sameE x x'
 | .faddr t x f,.faddr t' x' f'=>t==t'&&sameE x x'&&f==f'
 | .iaddr t x y,.iaddr t' x' y'=>t==t'&&sameE x x'&&sameE y y'
 | .nilck x,.nilck x'=>sameE x x'
 | _,_=>false
def stripE (g:E) (w:Bool):E→E
 | .guard x v e=>match sameE x g&&v==w with
  | true=>stripE g w e
  | false=> .guard (stripE g w x) v (stripE g w e)
 | .bin o t x y=> .bin o t (stripE g w x) (stripE g w y)
 | .un o x=> .un o (stripE g w x)
 | .pick p x y=> .pick (stripE g w p) (stripE g w x) (stripE g w y)
 | .and p x=> .and (stripE g w p) (stripE g w x)
 | .or p x=> .or (stripE g w p) (stripE g w x)
 | .index t x y=> .index t (stripE g w x) (stripE g w y)
 | .field t x f=> .field t (stripE g w x) f
 | .extract x i=> .extract (stripE g w x) i
 | .conv s d x=> .conv s d (stripE g w x)
 | .toInt k x=> .toInt k (stripE g w x)
 | .len t x=> .len t (stripE g w x)
 | .lenS x=> .lenS (stripE g w x)
 | .slA x=> .slA (stripE g w x)
 | .slL x y=> .slL (stripE g w x) (stripE g w y)
 | .slH x y=> .slH (stripE g w x) (stripE g w y)
 | .slB x y z=> .slB (stripE g w x) (stripE g w y) (stripE g w z)
 | .load t x=> .load t (stripE g w x)
 | .faddr t x f=> .faddr t (stripE g w x) f
 | .iaddr t x y=> .iaddr t (stripE g w x) (stripE g w y)
 | .nilck x=> .nilck (stripE g w x)
 | .var i=> .var i
 | .cst v=> .cst v
def headedE (g:E) (w:Bool):E→Bool
 | .guard x v _=>(sameE x g&&v==w) || headedE g w x
 | _=>false
def E.within:E→E→Bool
 | e,.var i=>sameE e (.var i)
 | e,.cst v=>sameE e (.cst v)
 | e,.bin o t x y=>sameE e (.bin o t x y) || e.within x || e.within y
 | e,.un o x=>sameE e (.un o x) || e.within x
 | e,.pick p x y=>sameE e (.pick p x y) || e.within p || e.within x || e.within y
 | e,.guard g w x=>sameE e (.guard g w x) || e.within g || (headedE g w e&&(stripE g w e).within x)
 | e,.and p x=>sameE e (.and p x) || e.within p || (headedE p true e&&(stripE p true e).within x)
 | e,.or p x=>sameE e (.or p x) || e.within p || (headedE p false e&&(stripE p false e).within x)
 | e,.index t x y=>sameE e (.index t x y) || e.within x || e.within y
 | e,.field t x f=>sameE e (.field t x f) || e.within x
 | e,.extract x f=>sameE e (.extract x f) || e.within x
 | e,.conv s d x=>sameE e (.conv s d x) || e.within x
 | e,.toInt k x=>sameE e (.toInt k x) || e.within x
 | e,.len t x=>sameE e (.len t x) || e.within x
 | e,.lenS x=>sameE e (.lenS x) || e.within x
 | e,.slA x=>sameE e (.slA x) || e.within x
 | e,.slL x y=>sameE e (.slL x y) || e.within x || e.within y
 | e,.slH x y=>sameE e (.slH x y) || e.within x || e.within y
 | e,.slB x y z=>sameE e (.slB x y z) || e.within x || e.within y || e.within z
 | e,.load t x=>sameE e (.load t x) || e.within x
 | e,.faddr t x f=>sameE e (.faddr t x f) || e.within x
 | e,.iaddr t x y=>sameE e (.iaddr t x y) || e.within x || e.within y
 | e,.nilck x=>sameE e (.nilck x) || e.within x
def mkPick (p a b:E):E:=
 match a,b with
 | .guard g true x,.cst (.bool false)=>match sameE g p with
  | true=> .and p x
  | false=> .pick p a b
 | .cst (.bool true),.guard g false x=>match sameE g p with
  | true=> .or p x
  | false=> .pick p a b
 | a,b=> .pick p a b
def pureOf (c:Cfg) (ρ:Operand→Option E):Op→Option E
 | .move x=>ρ x
 | .assign x=>ρ x
 | .pick p x y=>bind3 (ρ p) (ρ x) (ρ y) mkPick
 | .binOp op ty x y _=>match nilC y with
  | true=>none
  | false=>bind2 (ρ x) (ρ y) (.bin op ty)
 | .unOp op _ x=>bind1 (ρ x) (.un op)
 | .index ty x y=>bind2 (ρ x) (ρ y) (.index ty)
 | .field ty x f=>bind1 (ρ x) (.field ty · f)
 | .extract x i=>bind1 (ρ x) (.extract · i)
 | .convert s d x=>match c.descOf s,c.descOf d with
  | some (.int _),some (.int k)=>bind1 (ρ x) (.toInt k)
  | _,some (.slice _)=>none
  | _,_=>bind1 (ρ x) (.conv s d)
 | .load ty x=>bind1 (ρ x) (.load ty)
 | .fieldAddr ty x f=>bind1 (ρ x) (.faddr ty · f)
 | .indexAddr ty x y=>bind2 (ρ x) (ρ y) (.iaddr ty)
 | .nilCheck x=>bind1 (ρ x) .nilck
 | .slice ty x lo hi none=>match c.descOf ty with
  | some .string=>match lo,hi with
   | none,none=>bind1 (ρ x) .slA
   | some l,none=>bind2 (ρ x) (ρ l) .slL
   | none,some h=>bind2 (ρ x) (ρ h) .slH
   | some l,some h=>bind3 (ρ x) (ρ l) (ρ h) .slB
  | _=>none
 | .call k=>match k.callee,k.argTypes.toList,k.args.toList with
  | .builtin .len, [t], [x]=>match c.descOf t with
   | some .string=>bind1 (ρ x) .lenS
   | _=>bind1 (ρ x) (.len t)
  | _,_,_=>none
 | _=>none
def E.sure:E→Bool
 | .cst _=>true
 | _=>false
def shed (bad:E→Bool):E→List E
 | .var i=>match bad (.var i) with | true=> [] | false=> [.var i]
 | .cst v=>match bad (.cst v) with | true=> [] | false=> [.cst v]
 | .bin o t x y=>match bad (.bin o t x y) with | true=>shed bad x++shed bad y | false=> [.bin o t x y]
 | .un o x=>match bad (.un o x) with | true=>shed bad x | false=> [.un o x]
 | .pick p x y=>match bad (.pick p x y) with | true=>shed bad p++(shed bad x++shed bad y) | false=> [.pick p x y]
 | .guard g w x=>match bad (.guard g w x) with | true=>shed bad g++(match bad g with | true=> [] | false=>(shed bad x).map (.guard g w)) | false=> [.guard g w x]
 | .and g x=>match bad (.and g x) with | true=>shed bad g++(match bad g with | true=> [] | false=>(shed bad x).map (.guard g true)) | false=> [.and g x]
 | .or g x=>match bad (.or g x) with | true=>shed bad g++(match bad g with | true=> [] | false=>(shed bad x).map (.guard g false)) | false=> [.or g x]
 | .index t x y=>match bad (.index t x y) with | true=>shed bad x++shed bad y | false=> [.index t x y]
 | .field t x f=>match bad (.field t x f) with | true=>shed bad x | false=> [.field t x f]
 | .extract x f=>match bad (.extract x f) with | true=>shed bad x | false=> [.extract x f]
 | .conv a b x=>match bad (.conv a b x) with | true=>shed bad x | false=> [.conv a b x]
 | .toInt k x=>match bad (.toInt k x) with | true=>shed bad x | false=> [.toInt k x]
 | .len t x=>match bad (.len t x) with | true=>shed bad x | false=> [.len t x]
 | .lenS x=>match bad (.lenS x) with | true=>shed bad x | false=> [.lenS x]
 | .slA x=>match bad (.slA x) with | true=>shed bad x | false=> [.slA x]
 | .slL x y=>match bad (.slL x y) with | true=>shed bad x++shed bad y | false=> [.slL x y]
 | .slH x y=>match bad (.slH x y) with | true=>shed bad x++shed bad y | false=> [.slH x y]
 | .slB x y z=>match bad (.slB x y z) with | true=>shed bad x++(shed bad y++shed bad z) | false=> [.slB x y z]
 | .load t x=>match bad (.load t x) with | true=>shed bad x | false=> [.load t x]
 | .faddr t x f=>match bad (.faddr t x f) with | true=>shed bad x | false=> [.faddr t x f]
 | .iaddr t x y=>match bad (.iaddr t x y) with | true=>shed bad x++shed bad y | false=> [.iaddr t x y]
 | .nilck x=>match bad (.nilck x) with | true=>shed bad x | false=> [.nilck x]
def looksO (d:Option Nat) (e:E):Bool:=
 match d with
 | some i=>e.looks i
 | none=>false
def demand:List It→List E
 | []=> []
 | .par l::r=>l.map (·.2)++(demand r).flatMap (shed fun e=>l.any fun p=>e.looks p.1)
 | .eff _ _ d g _ xs::r=>(match g with | some (e,w)=>e::xs.map (fun p=> .guard e w p.2) | none=>xs.map (·.2))++(demand r).flatMap (shed fun e=>e.reads || looksO d e)
def covered (e:E) (l:List E):Bool:=e.sure || l.any fun f=>e.within f
def guardOf (ops:Array Oper) (keep:List Nat) (σ:List (Nat×E)) (g:Option (Nat×Bool)):Option (Option (E×Bool)):=
 match g with
 | none=>some none
 | some (j,want)=>match (ops[j]?).bind (·.dst) with
  | none=>none
  | some d=>match resT keep σ d with
   | some e=>some (some (e,want))
   | none=>none
def tmpOf:Operand→Option Nat
 | .tmp i=>some i
 | _=>none
def argsOf (keep:List Nat) (σ:List (Nat×E)):List Nat→Option (List (Nat×E))
 | []=>some []
 | i::r=>match resT keep σ i,argsOf keep σ r with
  | some e,some l=>some ((i,e)::l)
  | _,_=>none
def keepOf (keep:List Nat) (σ:List (Nat×E)):List Nat→Nat→List (Nat×E)
 | [],_=> []
 | i::r,k=>match lookE σ i with
  | some e=>(k,e)::keepOf keep σ r (k+1)
  | none=>keepOf keep σ r (k+1)
def stripG (g:Option (E×Bool)) (e:E):E:=
 match g with
 | none=>e
 | some (x,w)=>stripE x w e
def wrapG (g:Option (E×Bool)) (e:E):E:=
 match g with
 | none=>e
 | some (x,w)=> .guard x w e
def dropV (keep:List Nat) (fl:List (Nat×E)) (σ:List (Nat×E)):List (Nat×E):=
 σ.filter fun p=>(posOf keep p.1).isNone&&fl.all fun q=> !p.2.looks q.1
def dropD (keep:List Nat) (d:Option Nat) (σ:List (Nat×E)):List (Nat×E):=
 σ.filter fun p=> !p.2.reads&&(match d with | some i=>p.1 !=i&&(match posOf keep i with | some k=> !p.2.looks k | none=>true) | none=>true)
def posD (keep:List Nat) (d:Option Nat):Option Nat:=
 match d with
 | some i=>posOf keep i
 | none=>none
def dstOk (nt:Nat) (d:Option Nat):Bool:=
 match d with
 | some i=>decide (i<nt)
 | none=>true
def modeOf (c:Cfg) (ops:Array Oper) (i:Nat) (o:Op):Nat:=
 match isGrow o&&storeOk ops i o with
 | true=>1
 | false=>match appOk c ops i o with
  | true=>2
  | false=>match eatOk c ops i o with
   | true=>3
   | false=>0
theorem callv_not {o:Op} (h:isCallV o=true):isStore o=false∧isGrow o=false:=by
 unfold isCallV at h
 split at h
 ·rename_i k
  refine ⟨rfl,?_⟩
  obtain ⟨ce,as,ts⟩:=k
  cases ce with
  | value f=>rfl
  | _=>simp at h
 ·cases h
theorem mode_grow {c:Cfg} {ops:Array Oper} {i:Nat} {o:Op}:(modeOf c ops i o==1)=(isGrow o&&storeOk ops i o):=by
 unfold modeOf
 cases isGrow o&&storeOk ops i o with
 | true=>rfl
 | false=>cases appOk c ops i o <;> cases eatOk c ops i o <;> rfl
theorem mode_eat {c:Cfg} {ops:Array Oper} {i:Nat} {o:Op} (h:(modeOf c ops i o==3)=true):appOk c ops i o=false∧eatOk c ops i o=true:=by
 unfold modeOf at h
 split at h
 ·cases h
 ·split at h
  ·cases h
  ·rename_i ha
   split at h
   ·rename_i he;exact ⟨ha,he⟩
   ·cases h
theorem mode_app {c:Cfg} {ops:Array Oper} {i:Nat} {o:Op}:(modeOf c ops i o==2)=appOk c ops i o:=by
 unfold modeOf
 cases hg:isGrow o with
 | false=>simp only [Bool.false_and];cases appOk c ops i o <;> cases eatOk c ops i o <;> rfl
 | true=>
  have ha:appOk c ops i o=false:=by
   cases hc:isCallV o with
   | false=>simp [appOk,own_not hc]
   | true=>have:=(callv_not hc).2;rw [hg] at this;cases this
  rw [ha]
  cases storeOk ops i o <;> cases eatOk c ops i o <;> rfl
def maskOpt (c:Cfg) (ops:Array Oper) (dr:Bool) (i:Nat) (o:Op):Option (List Nat):=
 match dr&& !alone ops i with
 | true=>some (modeOf c ops i o::maskIds (bef ops) i ops.toList 0 0)
 | false=>none
def freshConv (c:Cfg) (ops:Array Oper) (o:Op):Bool:=
 match o with
 | .convert _ d (.tmp i)=>match c.descOf d with
  | some .string=>ops.toList.any fun p=>match p.op,p.dst with
   | .makeSlice _ _ _,some j=>i==j
   | _,_=>false
  | _=>false
 | _=>false
def pureIn (c:Cfg) (ops:Array Oper) (ρ:Operand→Option E) (o:Op):Option E:=
 match freshConv c ops o with
 | true=>none
 | false=>pureOf c ρ o
theorem pureIn_some {c:Cfg} {ops:Array Oper} {ρ:Operand→Option E} {o:Op} {e:E} (h:pureIn c ops ρ o=some e):pureOf c ρ o=some e:=by
 unfold pureIn at h
 split at h
 ·cases h
 ·exact h
def nearTs (c:Cfg) (ops:Array Oper) (dr:Bool) (i:Nat) (o:Op):List Nat:=
 match dr&& !alone ops i&&(isStore o || (isGrow o&&storeOk ops i o)) with
 | true=>nears ops i
 | false=>match dr&& !alone ops i&&lookOk c ops i o with
  | true=>peeks ops i
  | false=> []
def fitOk (ops:Array Oper) (dr:Bool) (i:Nat) (o:Op):Bool:=
 match dr&& !alone ops i&&isStore o with
 | true=>storeOk ops i o
 | false=>true
def baseE (c:Cfg) (a b:E):Bool:=
 sameE a b || match a with
  | .faddr _ x _=>baseE c x b
  | .iaddr ty x _=>(match c.descOf ty with
   | some (.array _ _)=>true
   | _=>false)&&baseE c x b
  | _=>false
def rootE (c:Cfg) (ops:Array Oper) (keep:List Nat) (g:Option (E×Bool)) (σ:List (Nat×E)) (dr:Bool) (j:Nat) (o:Op):Bool:=
 match dr&&(appAny c ops || growAny ops),seeTmp o with
 | true,some p=>match rootTmp ops j p with
  | some q=>match resT keep σ p,resT keep σ q with
   | some a,some b=>baseE c (stripG g a) (stripG g b)
   | _,_=>false
  | none=>true
 | _,_=>true
def parIf (fl:List (Nat×E)) (its:List It):List It:=
 match fl with
 | []=>its
 | _=> .par fl::its
def lowOps (c:Cfg) (ops:Array Oper) (keep:List Nat) (nt:Nat) (dr:Bool):List Oper→Nat→List (Nat×E)→Option (List It)
 | [],_,σ=>some (parIf (keepOf keep σ keep 0) [])
 | o::r,i,σ=>match guardOf ops keep σ o.guard with
  | none=>none
  | some g=>match pureIn c ops (fun x=>(resO keep σ x).map (stripG g)) o.op,o.dst with
   | some e,some d=>match decide (d<nt)&&rootE c ops keep g σ dr i o.op with
    | true=>match lowOps c ops keep nt dr r (i+1) ((d,wrapG g e)::σ.filter fun p=>p.1 !=d) with
     | some its=>match covered (wrapG g e) (demand its) with
      | true=>some its
      | false=>some (.par [(keep.length,wrapG g e)]::its)
     | none=>none
    | false=>none
   | _,_=>match guardOf ops keep (dropV keep (keepOf keep σ keep 0) σ) o.guard with
    | none=>none
    | some g=>match argsOf keep (dropV keep (keepOf keep σ keep 0) σ) (o.op.operands.toList.filterMap tmpOf++nearTs c ops dr i o.op) with
     | none=>none
     | some xs=>match (dstOk nt o.dst&&fitOk ops dr i o.op)&&rootE c ops keep g (dropV keep (keepOf keep σ keep 0) σ) dr i o.op with
      | true=>match lowOps c ops keep nt dr r (i+1) (dropD keep o.dst (dropV keep (keepOf keep σ keep 0) σ)) with
       | some its=>some (parIf (keepOf keep σ keep 0) (.eff (maskOpt c ops dr i o.op) (idOf ops.toList i 0) (posD keep o.dst) g o.op (xs.map fun p=>(p.1,stripG g p.2))::its))
       | none=>none
      | false=>none
def lowR (c:Cfg) (keep:List Nat) (nt:Nat) (ops:Array Oper) (dr:Bool):Option IR:=
 match !dr || drawOk ops with
 | true=>match lowOps c ops keep nt dr ops.toList 0 [] with
  | some its=>some (.reg (askCount ops.toList) (match dr with | true=>List.range (askCount ops.toList) | false=> []) its)
  | none=>none
 | false=>none
def lowNxt (c:Cfg) (keep:List Nat) (nt:Nat) (ops:Array Oper) (dr:Bool):Option IR:=
 match dr,ops.toList with
 | false,o::r=>match o.op,o.dst,o.guard with
  | .next (.tmp t) false,some d,none=>match posOf keep t,posOf keep d,lowOps c ops keep nt false r 1 [],decide (d<nt) with
   | some x,some k,some its,true=>some (.nxt x k (askCount r) its)
   | _,_,_,_=>none
  | _,_,_=>none
 | _,_=>none
def ptrArg (c:Cfg) (k:Call):Bool:=k.argTypes.toList.any fun t=>match c.descOf t with
 | some (.pointer _)=>true
 | some (.func _ _ _)=>true
 | _=>false
def writesC (c:Cfg):Op→Bool
 | .call k=>(match k.callee with | .value _=>true | _=>false)&&ptrArg c k
 | _=>false
def free2 (ops:Array Oper) (i j:Nat):Bool:=i !=j&& !ordered (bef ops) i j&& !ordered (bef ops) j i
def matesC (ops:Array Oper) (j:Nat):List Nat:=(List.range ops.size).filter fun i=>free2 ops i j&& !blindAt ops i
def altPair (c:Cfg) (ops:Array Oper):Option (Nat×Nat):=
 match insAt ops.toList 0 with
 | [i,j]=>(match free2 ops i j with | true=>some (i,j) | false=>none)
 | _=>match (List.range ops.size).filter fun j=>(match ops[j]? with | some o=>writesC c o.op&& !alone ops j | none=>false) with
  | [j]=>match matesC ops j with
   | i::r=>some (match r.getLast? with | some q=>(min q j,max q j) | none=>(min i j,max i j))
   | _=>none
  | _=>none
def altList (c:Cfg) (keep:List Nat) (nt:Nat):Nat→Array Oper→Option (List (Nat×List Nat×List It))
 | 0,_=>none
 | k+1,ops=>match altPair c ops with
  | some (i,j)=>match altOk ops i j,altList c keep nt k (altOps id id i j ops),altList c keep nt k (altOps (sg i j) (ta i j) j i ops) with
   | true,some l1,some l2=>some (l1++l2)
   | _,_,_=>none
  | none=>match lowR c keep nt ops true with
   | some (.reg n kl its)=>some [(n,kl,its)]
   | _=>none
def lowAlt (c:Cfg) (keep:List Nat) (nt:Nat) (ops:Array Oper) (dr:Bool):Option IR:=
 match dr,altPair c ops with
 | true,some _=>match altList c keep nt 4 ops with
  | some (x::l)=>some (.alt (x::l))
  | _=>none
 | _,_=>none
def lowG (c:Cfg) (keep:List Nat) (nt:Nat) (ops:Array Oper) (dr:Bool):Option IR:=
 match lowNxt c keep nt ops dr with
 | some x=>some x
 | none=>match lowAlt c keep nt ops dr with
  | some x=>some x
  | none=>lowR c keep nt ops dr
def lowC (c:Cfg) (keep:List Nat) (nt:Nat):Code→Option IR
 | .skip=>some .skip
 | .label _=>some .skip
 | .ret=>some .ret
 | .exit i=>some (.exit i)
 | .seq a b=>match lowC c keep nt a,lowC c keep nt b with
  | some a',some b'=>some (.seq a' b')
  | _,_=>none
 | .block i a=>match lowC c keep nt a with
  | some a'=>some (.block i a')
  | none=>none
 | .scope a=>lowC c keep nt a
 | .cond (.tmp x) a b=>match posOf keep x,lowC c keep nt a,lowC c keep nt b with
  | some k,some a',some b'=>some (.cond k a' b')
  | none,_,_=>some .stuck
  | _,_,_=>none
 | .loop a=>match lowC c keep nt a with
  | some a'=>some (.loop [] a')
  | none=>none
 | .cond (.const v) a b=>match ofVal v with
  | .bool true=>lowC c keep nt a
  | .bool false=>lowC c keep nt b
  | _=>some .stuck
 | .region _ ops dr=>match lowG c keep nt ops dr with
  | some x=>some x
  | none=>some .stuck
 | .rangeFunc (.tmp t) ps asg body=>match posOf keep t with
  | some x=>some (.rng x ⟨ps,asg,body,keep,nt⟩)
  | none=>none
 | _=>some .stuck
def E.bits:E→Nat
 | .var j=>2^j
 | .cst _=>0
 | .bin _ _ x y=>x.bits ||| y.bits
 | .un _ x=>x.bits
 | .pick p x y=>p.bits ||| x.bits ||| y.bits
 | .guard g _ e=>g.bits ||| e.bits
 | .and p x=>p.bits ||| x.bits
 | .or p x=>p.bits ||| x.bits
 | .index _ x y=>x.bits ||| y.bits
 | .field _ x _=>x.bits
 | .extract x _=>x.bits
 | .conv _ _ x=>x.bits
 | .toInt _ x=>x.bits
 | .len _ x=>x.bits
 | .lenS x=>x.bits
 | .slA x=>x.bits
 | .slL x y=>x.bits ||| y.bits
 | .slH x y=>x.bits ||| y.bits
 | .slB x y z=>x.bits ||| y.bits ||| z.bits
 | .load _ x=>x.bits
 | .faddr _ x _=>x.bits
 | .iaddr _ x y=>x.bits ||| y.bits
 | .nilck x=>x.bits
def without (m i:Nat):Nat:=if m.testBit i then m-2^i else m
def liveIts:List It→Nat→Nat
 | [],out=>out
 | .par l::r,out=>l.foldl (fun m p=>m ||| p.2.bits) (l.foldl (fun m p=>without m p.1) (liveIts r out))
 | .eff _ _ d g _ xs::r,out=>
  let m:=liveIts r out
  let m:=match d,g with | some i,none=>without m i | _,_=>m
  let m:=match g with | some (e,_)=>m ||| e.bits | none=>m
  xs.foldl (fun m p=>m ||| p.2.bits) m
def exitBits (xs:List (Nat×Nat)) (i:Nat):Nat:=
 match xs with
 | []=>0
 | (j,m)::r=>if i=j then m else exitBits r i
def liveI (ret:Nat):IR→List (Nat×Nat)→Nat→Nat
 | .skip,_,out=>out
 | .ret,_,_=>ret
 | .stuck,_,_=>0
 | .own _,_,out=>out
 | .exit i,xs,_=>exitBits xs i
 | .seq a b,xs,out=>liveI ret a xs (liveI ret b xs out)
 | .block i a,xs,out=>liveI ret a ((i,out)::xs) out
 | .reg _ _ its,_,out=>liveIts its out
 | .cond x a b,xs,out=>liveI ret a xs out ||| liveI ret b xs out ||| 2^x
 | .loop _ a,xs,_=>liveI ret a xs (liveI ret a xs (liveI ret a xs 0))
 | .rng _ s,_,_=>2^s.keep.length-1
 | .nxt x k _ its,_,out=>without (liveIts its out) k ||| 2^x
 | .alt l,_,out=>l.foldl (fun m x=>m ||| liveIts x.2.2 out) 0
def appended (d:Nat):List It→Bool
 | []=>false
 | .eff _ _ _ _ (.call ⟨.builtin .append,args,_⟩) xs::r=>(match args.toList with
  | .tmp t::_=>match lookE xs t with
   | some (.var j)=>j==d
   | _=>false
  | _=>false) || appended d r
 | _::r=>appended d r
def ownOf (c:Cfg):List It→List Own
 | []=> []
 | .eff _ _ (some d) _ (.slice ty (.tmp t) .none _ .none) xs::r=>
  let rest:=ownOf c r
  match appended d r,c.descOf ty,lookE xs t with
  | true,some (.slice el),some (.var i)=>match c.ti el with
   | some j=>⟨i,none,el,j.size⟩::rest
   | none=>rest
  | _,_,_=>rest
 | .eff _ _ _ _ (.call ⟨.builtin .append,args,ts⟩) xs::r=>
  let rest:=ownOf c r
  match ts.toList,args.toList with
  | st::_,.tmp t::_=>match c.descOf st with
   | some (.slice el)=>match c.ti el,lookE xs t with
    | some j,some (.var i)=>⟨i,none,el,j.size⟩::rest
    | some j,some (.load _ (.var i))=>⟨i,some 0,el,j.size⟩::rest
    | some j,some (.load _ (.faddr sty (.var i) f))=>match c.ti sty with
     | some k=>match k.fields[f]? with
      | some (_,o,_)=>⟨i,some o,el,j.size⟩::rest
      | none=>rest
     | none=>rest
    | some j,some (.load _ (.faddr sty (.nilck (.var i)) f))=>match c.ti sty with
     | some k=>match k.fields[f]? with
      | some (_,o,_)=>⟨i,some o,el,j.size⟩::rest
      | none=>rest
     | none=>rest
    | _,_=>rest
   | _=>rest
  | _,_=>rest
 | _::r=>ownOf c r
def ownFields (c:Cfg) (d:Nat):List (TypeId×Nat×Nat)→List Own
 | []=> []
 | (t,o,_)::r=>match c.descOf t with
  | some (.slice el)=>match c.ti el with
   | some j=>⟨d,some o,el,j.size⟩::ownFields c d r
   | none=>ownFields c d r
  | _=>ownFields c d r
def ownTy (c:Cfg) (d:Nat) (ty:TypeId):List Own:=
 match c.ti ty with
 | some i=>match i.desc with
  | .slice el=>match c.ti el with
   | some j=> [⟨d,some 0,el,j.size⟩]
   | none=> []
  | .struct _=>ownFields c d i.fields
  | _=> []
 | none=> []
def storedIn (d:Nat):List It→Bool
 | []=>false
 | .eff _ _ _ _ (.store _ (.tmp t) _) xs::r=>(match lookE xs t with | some (.var i)=>i==d | _=>false) || storedIn d r
 | _::r=>storedIn d r
def builtIn (d:Nat) (bs:List Nat):List It→Bool
 | []=>false
 | .eff _ _ _ _ (.store _ (.tmp t) (.tmp x)) xs::r=>(match lookE xs t,lookE xs x with | some (.var i),some (.var j)=>i==d&&bs.contains j | _,_=>false) || builtIn d bs r
 | _::r=>builtIn d bs r
def ownAlloc (c:Cfg) (bs:List Nat):List It→List Own
 | []=> []
 | .eff _ _ (some d) _ (.alloc ty) _::r=>match c.cut&&storedIn d r with
  | true=>match builtIn d bs r with
   | true=>ownTy c d ty++ownAlloc c bs r
   | false=>ownAlloc c bs r
  | false=>ownTy c d ty++ownAlloc c bs r
 | .eff _ _ (some d) _ (.build _ _) _::r=>ownAlloc c (d::bs) r
 | .eff _ _ (some d) _ (.box ty (.tmp t)) xs::r=>match lookE xs t with
  | some (.var j)=>match bs.contains j with
   | true=>ownTy c d ty++ownAlloc c bs r
   | false=>ownAlloc c bs r
  | _=>ownAlloc c bs r
 | _::r=>ownAlloc c bs r
def ownsIn (c:Cfg):IR→List Own
 | .seq a b=>ownsIn c a++ownsIn c b
 | .block _ a=>ownsIn c a
 | .cond _ a b=>ownsIn c a++ownsIn c b
 | .loop _ a=>ownsIn c a
 | .reg _ _ its=>ownOf c its
 | _=> []
def sameOwn (a b:Own):Bool:=a.slot==b.slot&&a.cell==b.cell
def dedup:List Own→List Own
 | []=> []
 | a::r=>match r.any (sameOwn a) with
  | true=>dedup r
  | false=>a::dedup r
def growBits:List Own→List Nat
 | []=> []
 | o::r=>match o.cell with
  | none=>(o.slot+1000)::growBits r
  | some _=>growBits r
def killBits (n m:Nat):List Nat:=(List.range n).filter fun i=> !m.testBit i
def seqOwn (l:List Own) (x:IR):IR:=
 match l with
 | []=>x
 | l=> .seq (.own l) x
def ownSeq (x:IR) (l:List Own):IR:=
 match l with
 | []=>x
 | l=> .seq x (.own l)
def lentOf:List It→List Own
 | []=> []
 | .eff (some (0::_)) _ _ _ (.slice ty (.tmp t) _ _ none) xs::r=>match lookE xs t with
  | some (.var i)=>⟨i,none,ty,0⟩::lentOf r
  | _=>lentOf r
 | _::r=>lentOf r
def lentCalls (c:Cfg):List It→List Own
 | []=> []
 | .eff (some (0::_)) _ _ _ (.call ⟨.value (.func f),args,_⟩) xs::r=>
  match c.brw f with
  | true=>(args.toList.filterMap fun a=>match a with
   | .tmp t=>(match lookE xs t with
    | some (.var i)=>some ⟨i,none,0,0⟩
    | _=>none)
   | _=>none)++lentCalls c r
  | false=>lentCalls c r
 | _::r=>lentCalls c r
def ownCell (c:Cfg):List (Nat×E)→List It→List Own
 | _, []=> []
 | σ,.par l::r=>ownCell c (l++σ) r
 | σ,.eff _ _ _ _ (.call ⟨.builtin .append,args,ts⟩) xs::r=>
  match ts.toList,args.toList with
  | st::_,.tmp t::_=>match c.descOf st,lookE xs t with
   | some (.slice el),some (.var i)=>match c.ti el,lookE σ i with
    | some j,some (.load _ (.var q))=>⟨q,some 0,el,j.size⟩::ownCell c σ r
    | _,_=>ownCell c σ r
   | _,_=>ownCell c σ r
  | _,_=>ownCell c σ r
 | σ,_::r=>ownCell c σ r
def cellsIn (c:Cfg):IR→List Own
 | .seq a b=>cellsIn c a++cellsIn c b
 | .block _ a=>cellsIn c a
 | .cond _ a b=>cellsIn c a++cellsIn c b
 | .loop _ a=>cellsIn c a
 | .reg _ _ its=>ownCell c [] its
 | _=> []
def ownsR (c:Cfg) (s:Site):List Own:=
 match lowC c s.keep s.nt s.body with
 | some b=>dedup (cellsIn c b)
 | none=> []
def annot (c:Cfg) (n ret:Nat):IR→List (Nat×Nat)→Nat→IR
 | .seq a b,xs,out=> .seq (annot c n ret a xs (liveI ret b xs out)) (annot c n ret b xs out)
 | .block i a,xs,out=> .block i (annot c n ret a ((i,out)::xs) out)
 | .cond x a b,xs,out=> .cond x (annot c n ret a xs out) (annot c n ret b xs out)
 | .loop k a,xs,out=>seqOwn ((dedup (ownsIn c a)).filter fun o=>(liveI ret (.loop k a) xs out).testBit o.slot) (.loop (killBits n (liveI ret (.loop k a) xs out)++growBits (ownsIn c a)) (annot c n ret a xs (liveI ret (.loop k a) xs out)))
 | .reg m kl its,_,_=>seqOwn (match c.cut with | true=>lentCalls c its | false=>lentOf its) (ownSeq (.reg m kl its) (ownAlloc c [] its))
 | .rng x s,_,_=>seqOwn (match c.cut with | true=>ownsR c s | false=> []) (.rng x s)
 | ir,_,_=>ir
def kindAt (l:List (Nat×Nat)) (i:Nat):Option Nat:=
 match l with
 | []=>none
 | (j,k)::r=>if i=j then some k else kindAt r i
def useT (ds:List (Nat×Nat)) (acc:List Nat) (i:Nat):List Nat:=
 match kindAt ds i with
 | some 2 | none=>i::acc
 | _=>acc
def readsOp (c:Cfg):Op→Bool
 | .convert s d _=>match c.descOf s,c.descOf d with
  | some (.int _),some (.int _)=>false
  | _,_=>true
 | .load _ _ | .fieldAddr _ _ _ | .indexAddr _ _ _=>true
 | .call k=>match k.argTypes.toList with
  | [t]=>match c.descOf t with
   | some .string=>false
   | _=>true
  | _=>true
 | _=>false
def keepOps (c:Cfg) (ops:Array Oper):List Oper→List (Nat×Nat)→List Nat→List Nat
 | [],_,acc=>acc
 | o::r,ds,acc=>
  let us:=o.op.operands.toList.filterMap tmpOf
  let us:=match o.guard with
   | some (j,_)=>match (ops[j]?).bind (·.dst) with | some d=>d::us | none=>us
   | none=>us
  let acc:=us.foldl (useT ds) acc
  let acc:=match o.op,o.dst with | .next _ false,some d=>d::acc | _,_=>acc
  let isPure:=(pureIn c ops (fun x=>some (match x with | .tmp i=>E.var i | _=> .cst .nilp)) o.op).isSome&&o.dst.isSome
  let rd:=readsOp c o.op || us.any fun u=>kindAt ds u==some 1
  let ds:=match isPure with
   | true=>ds
   | false=>ds.map fun p=>if p.2==1 then (p.1,2) else p
  match o.dst with
  | some d=>keepOps c ops r ((d,match isPure,rd with | true,true=>1 | true,false=>0 | false,_=>2)::ds) acc
  | none=>keepOps c ops r ds acc
def altLeaves (c:Cfg):Nat→Array Oper→List (Array Oper)
 | 0,_=> []
 | k+1,ops=>match altPair c ops with
  | some (i,j)=>altLeaves c k (altOps id id i j ops)++altLeaves c k (altOps (sg i j) (ta i j) j i ops)
  | none=> [ops]
def keepC (c:Cfg):Code→List Nat→List Nat
 | .seq a b,acc=>keepC c b (keepC c a acc)
 | .block _ a,acc=>keepC c a acc
 | .scope a,acc=>keepC c a acc
 | .cond (.tmp x) a b,acc=>keepC c b (keepC c a (x::acc))
 | .loop a,acc=>keepC c a acc
 | .region _ ops dr,acc=>match dr,altPair c ops with
  | true,some _=>(altLeaves c 4 ops).foldl (fun a o=>keepOps c o o.toList [] a) (keepOps c ops ops.toList [] acc)
  | _,_=>keepOps c ops ops.toList [] acc
 | .rangeFunc (.tmp t) _ asg body,acc=>keepC c body (keepC c asg (t::acc))
 | _,acc=>acc
def keepF (c:Cfg) (fn:Func) (a:Code):List Nat:=
 let l:=keepC c a (fn.results.toList.map fun | .tmp i=>i | .cell i _=>i)
 (List.range fn.ntmps).filter fun i=>l.contains i
inductive Res where
 | v (i:Nat)
 | cell (i:Nat) (ty:TypeId)
structure Low where
 keep:List Nat
 code:IR
 res:List Res
def lowRes (keep:List Nat):List ResultVar→Option (List Res)
 | []=>some []
 | .tmp i::r=>match posOf keep i,lowRes keep r with
  | some k,some l=>some (.v k::l)
  | _,_=>none
 | .cell i ty::r=>match posOf keep i,lowRes keep r with
  | some k,some l=>some (.cell k ty::l)
  | _,_=>none
def resBits:List Res→Nat
 | []=>0
 | .v i::r=>2^i ||| resBits r
 | .cell i _::r=>2^i ||| resBits r
def lowWith (c:Cfg) (keep:List Nat) (fn:Func):Option Low:=
 match fn.body with
 | none=>none
 | some a=>match lowRes keep fn.results.toList,lowC c keep fn.ntmps a,decide (fn.ntmps<10000)&&keep.all fun i=>decide (i<fn.ntmps) with
  | some rs,some ir,true=>some {keep:=keep,code:=annot c keep.length (resBits rs) ir [] (resBits rs),res:=rs}
  | _,_,_=>none
def IR.noRng:IR→Bool
 | .rng _ _=>false
 | .seq a b=>a.noRng&&b.noRng
 | .block _ a=>a.noRng
 | .cond _ a b=>a.noRng&&b.noRng
 | .loop _ a=>a.noRng
 | _=>true
def IR.sites:IR→List Site
 | .rng _ s=> [s]
 | .seq a b=>a.sites++b.sites
 | .block _ a=>a.sites
 | .cond _ a b=>a.sites++b.sites
 | .loop _ a=>a.sites
 | _=> []
def lowSite (c:Cfg) (s:Site):Option (IR×IR):=
 match lowC c s.keep s.nt s.asg,lowC c s.keep s.nt s.body,decide (s.nt<10000)&&s.keep.all fun i=>decide (i<s.nt) with
 | some a,some b,true=>match (annot c s.keep.length 0 a [] (2^s.keep.length-1)).noRng&&(annot c s.keep.length 0 b [] 0).noRng with
  | true=>some (annot c s.keep.length 0 a [] (2^s.keep.length-1),annot c s.keep.length 0 b [] 0)
  | false=>none
 | _,_,_=>none
def putPs (keep:List Nat):List Tmp→List AV→List (Option AV)→List (Option AV)
 | p::ps,x::xs,v=>putPs keep ps xs (match posOf keep p with | some k=>v.set k (some x) | none=>v)
 | _,_,v=>v
def roundV (s:Site) (env args:List AV):List (Option AV):=putPs s.keep s.ps.toList args (env.map some)
def lowF (c:Cfg) (fn:Func):Option Low:=
 match fn.body with
 | none=>none
 | some a=>lowWith c (keepF c fn a) fn
def siteAt (c:Cfg) (fn:Func) (i:Nat):Site:=
 match lowF c fn with
 | some L=>(L.code.sites[i]?).getD default
 | none=>default
end Go.Am
