/- Each operation of the abstract machine is sound: -/
import Derived.Test.YtnlndhjfmghajaaGreatDoorAmMem
import Derived.Laws.Entries
import Derived.Laws.Tables
import Derived.Laws.StructEq
import Derived.Laws.Pointers
import Derived.ChangeKeysEq
set_option linter.all false
namespace Go.Am
variable [Kn]
structure CfgTy (c:Cfg) (P:Program):Prop where
 ty: ∀t i,c.ti t=some i→tiOf P t=some i
structure TyIs (P:Program) (t:TypeId) (i:TI) (j:TypeInfo):Prop where
 info:P.info? t=some j
 und:P.underlying t=some i.desc
 size:j.size=i.size
 bytes:j.bytes=i.bytes
 zero:i.zero=j.zero.map fun z=>(ofVal z).cells
 agg:i.agg=aggD i.desc
 eq:i.eq=eqType P t
 fields:i.fields=fieldsOf P i.desc
 fok:fieldsOk P i.desc=true
 zok:zvOk j.zero i.agg=true
theorem ty_is {P:Program} {t:TypeId} {i:TI} (h:tiOf P t=some i): ∃info,TyIs P t i info:=by
 unfold tiOf at h
 cases h1:P.info? t with
 | none=>simp [h1] at h
 | some info=>
  cases h2:P.underlying t with
  | none=>simp [h1,h2] at h
  | some d=>
   simp only [h1,h2] at h
   split at h
   ·cases h
   ·rename_i hok
    simp only [Option.some.injEq] at h
    subst h
    simp only [not_or,Bool.not_eq_false] at hok
    exact ⟨info,h1,h2,rfl,rfl,rfl,rfl,rfl,rfl,hok.1,hok.2⟩
def TRel (g:Gh) (w:World) (t:Env) (a:Act):Prop:= ∀i,t.has i=true→i<a.tmps.size∧Rd g w (t.get .any i) (a.tmps.getD i undef)
theorem TRel.mono {g g':Gh} {w w':World} {t:Env} {a:Act} (hl:Le g w g' w') (h:TRel g w t a):TRel g' w' t a:=
 fun i hi=>⟨(h i hi).1,(h i hi).2.mono hl⟩
theorem TRel.get {g:Gh} {w:World} {t:Env} {a:Act} (h:TRel g w t a) (i:Nat):Rd g w (t.get .any i) (a.tmps.getD i undef):=by
 cases hi:t.has i with
 | true=>exact (h i hi).2
 | false=>rw [Tr.get_has_not _ _ hi];exact .any _
theorem TRel.put {g:Gh} {w:World} {t:Env} {a:Act} (h:TRel g w t a) (d:Option Tmp) {x:AV} {v:Value} (hv:Rd g w x v):TRel g w (putA t d x) (a.put d v):=by
 cases d with
 | none=>exact h
 | some d=>
  intro i hi
  simp only [putA,Tr.has_set] at hi
  obtain ⟨h1,h2⟩:=h i hi
  refine ⟨by simpa [Act.put] using h1,?_⟩
  by_cases e:d=i
  ·subst e
   simp only [putA,Tr.get_set_eq _ _ _ hi,Act.put]
   simpa [h1] using hv
  ·simp only [putA,Tr.get_set_ne _ _ _ e,Act.put]
   simpa [Array.getElem?_setIfInBounds_ne e] using h2
theorem rd_cell (g:Gh) (w:World) (v:Value):Rd g w (ofCell v) v:=by
 unfold ofCell
 split
 ·exact .int _ _
 ·exact .bool _
 ·rename_i s;exact .str s.data.toList
 ·exact .nilp
 ·exact .lst (some true) 0 [] none 0 0 0 (fun _ _=>undef) (fun x h=>by simp at h;simp [h]) (fun _=>⟨rfl,rfl⟩) (Nat.le_refl _) (fun h=>absurd rfl h) (fun i e h=>by simp at h) (fun i j e x h=>by simp at h) (fun i j e x h=>by simp at h)
 ·exact .nilf
 ·exact .ifc false _ (.inl ⟨rfl,rfl⟩)
 ·exact .any _
 ·exact .any _
 ·refine .unk _ ?_
  rename_i h1 h2
  cases v <;> first | rfl | (exact absurd rfl (h1 _)) | (exact absurd rfl (h2 _))
theorem rd_val (g:Gh) (w:World) (v:Value):Rd g w (ofVal v) v:=by
 unfold ofVal
 split
 ·rename_i cs
  refine .agg _ _ (by simp) (fun i c u hc hu=> ?_)
  simp only [List.getElem?_map,Array.getElem?_toList,hu,Option.map_some,Option.some.injEq] at hc
  subst hc;exact rd_cell g w u
 ·rename_i cs
  refine .tup _ _ (by simp) (fun i c u hc hu=> ?_)
  simp only [List.getElem?_map,Array.getElem?_toList,hu,Option.map_some,Option.some.injEq] at hc
  subst hc;exact rd_cell g w u
 ·exact rd_cell g w v
theorem TRel.ev {g:Gh} {w:World} {t:Env} {a:Act} (h:TRel g w t a) (x:Operand):Rd g w (ev t x) (a.eval x):=by
 cases x with
 | tmp i=>exact h.get i
 | const v=>exact rd_val g w v
 | func f=>exact .fn f [] [] #[] #[] rfl rfl (fun i c v h=>by simp at h) (fun i c v h=>by simp at h)
 | global n=>exact .any _
def OpOk (r:Result Next) (g:Gh) (w:World) (bs':List Box) (d:AV):Prop:=
 ∃nx v w' g',r= .ok nx w'∧(nx= .value v∨(nx= .skip∧v=undef))∧Mem g' bs' w'∧Le g w g' w'∧Fr g w g' w'∧Rd g' w' d v
theorem OpOk.pure {r:Result Next} {g:Gh} {w:World} {bs:List Box} {d:AV} {v:Value} (hr:r= .ok (.value v) w) (hm:Mem g bs w) (hd:Rd g w d v):OpOk r g w bs d:=
 ⟨_,v,w,g,hr,.inl rfl,hm,Le.refl _ _,Fr.refl _ _,hd⟩
section
variable {g:Gh} {w:World}
theorem Rd.int_inv {k:IntKind} {n:Int} {v:Value} (h:Rd g w (.int k n) v):v= .int k n:=by cases h;rfl
theorem Rd.bool_inv {b:Bool} {v:Value} (h:Rd g w (.bool b) v):v= .bool b:=by cases h;rfl
theorem Rd.str_inv {s:List UInt8} {v:Value} (h:Rd g w (.str s) v):v= .string ⟨s.toArray⟩:=by cases h;rfl
theorem Rd.nilp_inv {v:Value} (h:Rd g w .nilp v):v= .pointer none:=by cases h;rfl
theorem Rd.nilf_inv {v:Value} (h:Rd g w .nilf v):v= .nilFunc:=by cases h;rfl
theorem Rd.ptr_inv {k off:Nat} {v:Value} (h:Rd g w (.ptr k off) v): ∃b,g.e k= .var b∧v= .pointer (some ⟨b,off,none⟩):=by cases h;exact ⟨_,‹_›,rfl⟩
theorem Rd.agg_inv {cs:List AV} {v:Value} (h:Rd g w (.agg cs) v): ∃vs,v= .agg vs∧vs.size=cs.length∧ ∀(i:Nat) (c:AV) (v:Value),cs[i]?=some c→vs[i]?=some v→Rd g w c v:=by
 cases h;exact ⟨_,rfl,‹_›,‹_›⟩
theorem Rd.tup_inv {cs:List AV} {v:Value} (h:Rd g w (.tup cs) v): ∃vs,v= .tuple vs∧vs.size=cs.length∧ ∀(i:Nat) (c:AV) (v:Value),cs[i]?=some c→vs[i]?=some v→Rd g w c v:=by
 cases h;exact ⟨_,rfl,‹_›,‹_›⟩
end
theorem wrap_run (P:Program) (w w':World) (s:Sem Value) (v:Value) (h:s.run P w= .ok v w'):(do pure (Next.value (←s)):Sem Next).run P w= .ok (.value v) w':=by
 simp [h]
theorem intOp_run (P:Program) (w:World) (t:TypeId) (op:BinOp) (k:IntKind) (a b:Int) (r:AV) (h:intOp op k a b=some r) (hs:op≠ .shl) (hs':op≠ .shr):
  ∃v,(binOp op t (.int k a) (.int k b)).run P w= .ok v w∧ ∀g,Rd g w r v:=by
 cases op
 case shl=>exact absurd rfl hs
 case shr=>exact absurd rfl hs'
 case quo=>
  simp only [intOp] at h
  split at h
  ·cases h
  ·rename_i hb;cases h;exact ⟨_,by simp only [binOp,Op.intDiv,hb,ne_eq,not_true,if_false];rfl,fun g=> .int _ _⟩
 case rem=>
  simp only [intOp] at h
  split at h
  ·cases h
  ·rename_i hb;cases h;exact ⟨_,by simp only [binOp,Op.intDiv,hb,ne_eq,not_true,if_false];rfl,fun g=> .int _ _⟩
 all_goals
  simp only [intOp,Option.some.injEq] at h
  subst h
  refine ⟨_,by simp only [binOp,Op.intArith,Op.intCmp,Op.intBits,ne_eq,not_true,if_false];rfl,fun g=> ?_⟩
  first | exact .int _ _ | exact .bool _
theorem shiftOp_run (P:Program) (w:World) (t:TypeId) (op:BinOp) (k k':IntKind) (a b:Int) (r:AV) (h:shiftOp op k a b=some r) (hs:op= .shl∨op= .shr):
  ∃v,(binOp op t (.int k a) (.int k' b)).run P w= .ok v w∧ ∀g,Rd g w r v:=by
 unfold shiftOp at h
 split at h
 ·cases h
 ·rename_i hb
  rcases hs with rfl | rfl
  ·cases h;exact ⟨_,by simp only [binOp,Op.shift,hb,if_false];rfl,fun g=> .int _ _⟩
  ·cases h;exact ⟨_,by simp only [binOp,Op.shift,hb,if_false];rfl,fun g=> .int _ _⟩
theorem bytes_toList (s:List UInt8):(ByteArray.mk s.toArray).toList=s:=by rw [ByteArray.toList_eq]
theorem bytes_append (a b:List UInt8):(ByteArray.mk a.toArray)++(ByteArray.mk b.toArray)=ByteArray.mk (a++b).toArray:=by
 apply ByteArray.ext
 simp [ByteArray.data_append]
theorem strOp_run (P:Program) (w:World) (t:TypeId) (op:BinOp) (a b:List UInt8) (r:AV) (h:strOp op a b=some r):
  ∃v,(binOp op t (.string ⟨a.toArray⟩) (.string ⟨b.toArray⟩)).run P w= .ok v w∧ ∀g,Rd g w r v:=by
 cases op
 case add=>
  simp only [strOp] at h
  split at h
  ·rename_i hl
   simp only [Option.some.injEq] at h
   subst h
   refine ⟨.string ⟨(a++b).toArray⟩,?_,fun g=> .str _⟩
   have hl': ¬ (((ByteArray.mk a.toArray).size+(ByteArray.mk b.toArray).size:Nat):Int)>IntKind.i64.max:=by
    simp only [IntKind.max_i64,strLim] at*
    show¬ ((a.toArray.size+b.toArray.size:Nat):Int)>_
    simp only [List.size_toArray]
    omega
   simp only [binOp,Op.stringOp]
   rw [if_neg hl',bytes_append]
   rfl
  ·cases h
 all_goals
  simp only [strOp,Option.some.injEq,reduceCtorEq] at h
 all_goals
  subst h
  refine ⟨_,by simp only [binOp,Op.stringOp,bytes_toList];rfl,fun g=> ?_⟩
  exact .bool _
theorem part_run {P:Program} {g:Gh} {w:World} {t:TypeId} {i:TI} {info:TypeInfo} (hi:TyIs P t i info) {cs:List AV} {vs:Array Value} {off:Nat} {p:AV}
  (hn:vs.size=cs.length) (h: ∀(i:Nat) (c:AV) (v:Value),cs[i]?=some c→vs[i]?=some v→Rd g w c v) (hp:partA i cs off=some p):
  ∃u,(part t vs off).run P w= .ok u w∧Rd g w p u:=by
 unfold partA at hp
 cases ha:i.agg with
 | true=>
  rw [ha] at hp
  simp only at hp
  split at hp
  ·rename_i hle
   simp only [Option.some.injEq] at hp
   subst hp
   refine ⟨.agg (vs.extract off (off+i.size)),?_,.agg _ _ (by simp;omega) (fun j c v hc hv=> ?_)⟩
   ·have hd:=hi.agg
    rw [ha] at hd
    cases hdesc:i.desc <;> rw [hdesc] at hd <;> simp only [aggD,Bool.true_eq_false] at hd <;>
     simp [part,isAgg,run_underlying (hdesc▸hi.und),sizeOf,typeInfo,hi.info,hi.size]
   ·rw [List.getElem?_take] at hc
    split at hc
    ·rw [List.getElem?_drop] at hc
     rw [Array.getElem?_extract] at hv
     split at hv
     ·exact h _ _ _ hc hv
     ·cases hv
    ·cases hc
  ·cases hp
 | false=>
  rw [ha] at hp
  simp only at hp
  have hd:=hi.agg
  rw [ha] at hd
  have hlt:off<vs.size:=by
   rw [hn]
   rcases Nat.lt_or_ge off cs.length with h' | h'
   ·exact h'
   ·rw [List.getElem?_eq_none h'] at hp;cases hp
  refine ⟨vs[off],?_,h off p _ hp (by simp [hlt])⟩
  cases hdesc:i.desc <;> rw [hdesc] at hd <;> simp only [aggD,Bool.false_eq_true] at hd <;>
   simp [part,isAgg,run_underlying (hdesc▸hi.und),hlt]
theorem Rd.lst_inv {g:Gh} {w:World} {nl:Option Bool} {sz:Nat} {es:List AV} {v:Value} (h:Rd g w (.lst nl sz es) v):
  ∃a cap,v= .slice a es.length cap∧(∀x,nl=some x→a.isNone=x)∧(a=none→es= []∧cap=0):=by
 cases h;exact ⟨_,_,rfl,‹_›,‹_›⟩
structure Vars (g:Gh) (w:World):Prop where
 row: ∀k b,g.e k= .var b→ ∃c ty,w.heap[b]?=some (.cells c ty (0,0))
 inj: ∀k l b,g.e k= .var b→g.e l= .var b→k=l
theorem Mem.vars {g:Gh} {bs:List Box} {w:World} (hm:Mem g bs w):Vars g w where
 row k b h:=by
  cases hb:Box.at bs k with
  | dead=>rw [hm.no k hb] at h;cases h
  | var ty cs=>
   obtain ⟨b',h1,c,h2,_⟩:=hm.var k ty cs hb
   rw [h] at h1;cases h1
   exact ⟨c,ty,h2⟩
  | sl sh sz es=>
   obtain ⟨loc,h1,_⟩:=hm.sl k sh sz es hb
   rw [h] at h1;cases h1
  | loop st=>
   obtain ⟨b',r,h1,_⟩:=hm.loop k st hb
   rw [h] at h1;cases h1
  | mp es clock=>
   obtain ⟨b',h1,_⟩:=hm.mp k es clock hb
   rw [h] at h1;cases h1
  | gone=>
   obtain ⟨m,sz,h1⟩:=hm.gone k hb
   rw [h] at h1;cases h1
  | iter o=>
   obtain ⟨b',h1,_⟩:=hm.it k o hb
   rw [h] at h1;cases h1
 inj k l b h1 h2:=hm.inj k l b (by rw [h1];rfl) (by rw [h2];rfl)
theorem run_sameAddr {P:Program} {w:World} {b b' o o':Nat} {c c':Array Value} {ty ty':TypeId} (h:w.heap[b]?=some (.cells c ty (0,0))) (h':w.heap[b']?=some (.cells c' ty' (0,0))):
  (sameAddr ⟨b,o,none⟩ ⟨b',o',none⟩).run P w= .ok (b==b'&&o==o') w:=by
 by_cases e:b=b'
 ·subst e
  by_cases e:o=o'
  ·subst e;simp [sameAddr]
  ·have:((⟨b,o,none⟩:Addr)==⟨b,o',none⟩)=false:=by rw [beq_eq_false_iff_ne];intro h;cases h;exact e rfl
   simp [sameAddr,this,e]
 ·simp [sameAddr,e,World.frozen?,h,h',noView,viewAt,World.shape?,mayBeOne,stringish]
theorem eqCell_run {P:Program} {c:Cfg} (hc:CfgTy c P) {g:Gh} {w:World} (hvs:Vars g w) {t:TypeId} {d:TypeDesc} (hu:P.underlying t=some d) {x y:AV} {u v:Value} (hx:Rd g w x u) (hy:Rd g w y v) {b:Bool} (h:eqCell c d x y=some b) (n:Nat):
  (Op.equalIn (n+1) t u v).run P w= .ok b w:=by
 unfold eqCell at h
 split at h
 ·split at h
  ·cases h;rw [hx.bool_inv,hy.bool_inv];exact run_equalIn_bool w n t _ _ hu
  ·cases h
 ·split at h
  ·split at h
   ·rename_i hk;subst hk;cases h;rw [hx.int_inv,hy.int_inv];exact run_equalIn_int w n t _ _ _ _ hu
   ·cases h
  ·cases h
 ·split at h
  ·cases h;rw [hx.str_inv,hy.str_inv,run_equalIn_string w n t _ _ hu,bytes_toList,bytes_toList]
  ·cases h
 ·split at h <;> try cases h
  ·rw [hx.nilp_inv,hy.nilp_inv];simp [Op.equalIn,run_underlying hu]
  ·obtain ⟨_,_,rfl⟩:=hy.ptr_inv;rw [hx.nilp_inv];simp [Op.equalIn,run_underlying hu]
  ·obtain ⟨_,_,rfl⟩:=hx.ptr_inv;rw [hy.nilp_inv];simp [Op.equalIn,run_underlying hu]
  ·cases hy;rw [hx.nilp_inv];simp [Op.equalIn,run_underlying hu]
  ·cases hx;rw [hy.nilp_inv];simp [Op.equalIn,run_underlying hu]
  rename_i el _ _ k o l o'
  split at h
  ·rename_i j hj
   split at h <;> cases h
   rename_i hjs
   obtain ⟨info,hi⟩:=ty_is (hc.ty el j hj)
   have hsz:(sizeOf el).run P w= .ok j.size w:=by simp [sizeOf,typeInfo,hi.info,hi.size]
   obtain ⟨b1,e1,rfl⟩:=hx.ptr_inv
   obtain ⟨b2,e2,rfl⟩:=hy.ptr_inv
   obtain ⟨c1,t1,h1⟩:=hvs.row k b1 e1
   obtain ⟨c2,t2,h2⟩:=hvs.row l b2 e2
   have hb:(b1==b2)=(k==l):=by
    by_cases e:k=l
    ·subst e;rw [e1] at e2;cases e2;simp
    ·have:b1≠b2:=fun e'=>by subst e';exact e (hvs.inj k l b1 e1 e2)
     rw [beq_eq_false_iff_ne.2 this,beq_eq_false_iff_ne.2 e]
   have:=run_sameAddr (P:=P) (o:=o) (o':=o') h1 h2
   rw [hb] at this
   simp [Op.equalIn,run_underlying hu,hsz,hjs,samePointer,this]
  ·cases h
 ·split at h <;> cases h
  ·obtain ⟨a,cap,rfl,ha,_⟩:=hx.lst_inv
   obtain ⟨a',cap',rfl,ha',_⟩:=hy.lst_inv
   have h1:=ha _ rfl
   have h2:=ha' _ rfl
   cases a' with
   | some _=>simp at h2
   | none=>rw [←h1];cases a <;> simp [Op.equalIn,run_underlying hu]
  ·obtain ⟨a,cap,rfl,_,hnil⟩:=hx.lst_inv
   obtain ⟨a',cap',rfl,ha',_⟩:=hy.lst_inv
   have h2:=ha' _ rfl
   cases a' with
   | some _=>simp at h2
   | none=>
    cases a with
    | none=>exact absurd (hnil rfl).1 (by simp)
    | some _=>simp [Op.equalIn,run_underlying hu]
  ·cases hx with
   | cap0 _ a hnl=>
    obtain ⟨a',cap',rfl,ha',_⟩:=hy.lst_inv
    have h1:=hnl _ rfl
    have h2:=ha' _ rfl
    cases a' with
    | some _=>simp at h2
    | none=>rw [←h1];cases a <;> simp [Op.equalIn,run_underlying hu]
 ·split at h <;> cases h
  ·rw [hx.nilf_inv,hy.nilf_inv];simp [Op.equalIn,run_underlying hu]
  ·cases hx;rw [hy.nilf_inv];simp [Op.equalIn,run_underlying hu]
  ·cases hy;rw [hx.nilf_inv];simp [Op.equalIn,run_underlying hu]
 ·cases h
theorem both_some {a b:Option Bool} {r:Bool} (h:both a b=some r): ∃p q,a=some p∧b=some q∧r=(p&&q):=by
 cases a with
 | none=>cases h
 | some p=>cases b with
  | none=>cases h
  | some q=>simp only [both,Option.some.injEq] at h;exact ⟨p,q,rfl,rfl,h.symm⟩
section
variable {P:Program} {c:Cfg} (hc:CfgTy c P) {g:Gh} {w:World}
include hc
theorem partT_run {t:TypeId} {cs:List AV} {vs:Array Value} {off:Nat} {p:AV} (hn:vs.size=cs.length) (h: ∀(i:Nat) (c:AV) (v:Value),cs[i]?=some c→vs[i]?=some v→Rd g w c v)
  (hp:partT c t cs off=some p): ∃u,(part t vs off).run P w= .ok u w∧Rd g w p u:=by
 unfold partT at hp
 cases ht:c.ti t with
 | none=>rw [ht] at hp;cases hp
 | some i=>
  rw [ht] at hp
  obtain ⟨info,hi⟩:=ty_is (hc.ty t i ht)
  exact part_run hi hn h hp
theorem eqFields_run {eq:TypeId→AV→AV→Option Bool} {n:Nat} (heq: ∀t x y u v b,eq t x y=some b→Rd g w x u→Rd g w y v→(Op.equalIn n t u v).run P w= .ok b w)
  {xs ys:List AV} {us vs:Array Value} (hx:us.size=xs.length) (hx': ∀(i:Nat) (c:AV) (v:Value),xs[i]?=some c→us[i]?=some v→Rd g w c v)
  (hy:vs.size=ys.length) (hy': ∀(i:Nat) (c:AV) (v:Value),ys[i]?=some c→vs[i]?=some v→Rd g w c v):
  ∀(fs:List Field) (b:Bool),(∀f∈fs,f.name≠ "_")→eqFields (partT c) eq xs ys (fs.map fun f=>(f.type,f.offset,((P.info? f.type).map (·.size)).getD 0))=some b→
   (Op.eqFields n us vs fs).run P w= .ok b w
 | [],b,_,h=>by simp only [List.map_nil,eqFields,Option.some.injEq] at h;subst h;rfl
 | f::fs,b,hnm,h=>by
  simp only [List.map_cons,eqFields] at h
  split at h
  ·rename_i p q hp hq
   obtain ⟨r1,r2,h1,h2,rfl⟩:=both_some h
   obtain ⟨u,hu,ru⟩:=partT_run hc hx hx' hp
   obtain ⟨v,hv,rv⟩:=partT_run hc hy hy' hq
   have he:=heq _ _ _ _ _ _ h1 ru rv
   have ih:=eqFields_run heq hx hx' hy hy' fs r2 (fun f hf=>hnm f (List.mem_cons_of_mem _ hf)) h2
   simp only [Op.eqFields,hnm f List.mem_cons_self,ne_eq,not_false_eq_true,if_true,Sem.run_bind,hu,hv,he,Result.andThen_ok]
   cases r1
   ·simp
   ·simpa using ih
  ·cases h
theorem eqItems_run {eq:TypeId→AV→AV→Option Bool} {n:Nat} (heq: ∀t x y u v b,eq t x y=some b→Rd g w x u→Rd g w y v→(Op.equalIn n t u v).run P w= .ok b w) (e:TypeId) (m:Nat)
  {xs ys:List AV} {us vs:Array Value} (hx:us.size=xs.length) (hx': ∀(i:Nat) (c:AV) (v:Value),xs[i]?=some c→us[i]?=some v→Rd g w c v)
  (hy:vs.size=ys.length) (hy': ∀(i:Nat) (c:AV) (v:Value),ys[i]?=some c→vs[i]?=some v→Rd g w c v):
  ∀(is:List Nat) (b:Bool),eqItems (partT c) eq e m xs ys is=some b→(Op.eqItems n e m us vs is).run P w= .ok b w
 | [],b,h=>by simp only [eqItems,Option.some.injEq] at h;subst h;rfl
 | i::is,b,h=>by
  simp only [eqItems] at h
  split at h
  ·rename_i p q hp hq
   obtain ⟨r1,r2,h1,h2,rfl⟩:=both_some h
   obtain ⟨u,hu,ru⟩:=partT_run hc hx hx' hp
   obtain ⟨v,hv,rv⟩:=partT_run hc hy hy' hq
   have he:=heq _ _ _ _ _ _ h1 ru rv
   have ih:=eqItems_run heq e m hx hx' hy hy' is r2 h2
   simp only [Op.eqItems,Sem.run_bind,hu,hv,he,Result.andThen_ok]
   cases r1
   ·simp
   ·simpa using ih
  ·cases h
theorem eqRec_run (hvs:Vars g w): ∀(d n:Nat) (t:TypeId) (x y:AV) (u v:Value) (b:Bool),eqRec c d t x y=some b→Rd g w x u→Rd g w y v→(Op.equalIn (n+d) t u v).run P w= .ok b w
 | 0,_,_,_,_,_,_,_,h,_,_=>by cases h
 | d+1,n,t,x,y,u,v,b,h,hx,hy=>by
  unfold eqRec at h
  cases ht:c.ti t with
  | none=>rw [ht] at h;cases h
  | some i=>
   obtain ⟨info,hi⟩:=ty_is (hc.ty t i ht)
   rw [ht] at h
   simp only at h
   split at h
   ·rename_i xs ys
    obtain ⟨us,rfl,hxn,hx'⟩:=hx.agg_inv
    obtain ⟨vs,rfl,hyn,hy'⟩:=hy.agg_inv
    split at h
    ·rename_i heq
     have het:eqType P t=true:=by rw [←hi.eq];exact heq
     unfold eqType at het
     split at h
     ·rename_i fs hdesc
      have hu:P.underlying t=some (.struct fs):=hdesc▸hi.und
      simp only [hu,Bool.and_eq_true,Bool.not_eq_true',List.all_eq_true,bne_iff_ne] at het
      have hf:P.fieldsOf t=fs:=by simp [Program.fieldsOf,hu]
      rw [show n+(d+1)=(n+d)+1 from rfl,run_equalIn_struct w (n+d) t us vs (by rw [hf];exact hu) het.2.1,hf]
      rw [hi.fields,hdesc] at h
      exact eqFields_run hc (fun t x y u v b he rx ry=>eqRec_run hvs d n t x y u v b he rx ry) hxn hx' hyn hy' fs.toList b het.2.2 h
     ·rename_i len e hdesc
      have hu:P.underlying t=some (.array len e):=hdesc▸hi.und
      split at h
      ·rename_i j hj
       obtain ⟨einfo,he⟩:=ty_is (hc.ty e j hj)
       have hcells:P.cellsOf e=j.size:=by simp [Program.cellsOf,he.info,he.size]
       rw [show n+(d+1)=(n+d)+1 from rfl,run_equalIn_array w (n+d) us vs hu he.info,hcells]
       exact eqItems_run hc (fun t x y u v b he rx ry=>eqRec_run hvs d n t x y u v b he rx ry) e j.size hxn hx' hyn hy' _ b h
      ·cases h
     ·cases h
    ·cases h
   ·exact eqCell_run hc hvs hi.und hx hy h (n+d)
end
theorem eqGuard_run {P:Program} {c:Cfg} (hc:CfgTy c P) {g:Gh} {w:World} {d:Nat} {t:TypeId} {x y:AV} {u v:Value} {b:Bool} (h:eqRec c d t x y=some b) (hx:Rd g w x u) (hy:Rd g w y v) (op:BinOp) (p q:Operand):
  (eqGuard op t p q u v).run P w= .ok () w:=by
 cases d with
 | zero=>cases h
 | succ d=>
  unfold eqRec at h
  cases ht:c.ti t with
  | none=>rw [ht] at h;cases h
  | some i=>
   obtain ⟨info,hi⟩:=ty_is (hc.ty t i ht)
   rw [ht] at h
   simp only at h
   split at h
   ·obtain ⟨us,rfl,hxn,hx'⟩:=hx.agg_inv
    obtain ⟨vs,rfl,hyn,hy'⟩:=hy.agg_inv
    split at h
    ·rename_i heq
     have het:eqType P t=true:=by rw [←hi.eq];exact heq
     unfold eqType at het
     simp only [Bool.and_eq_true,Bool.not_eq_true'] at het
     exact run_eqGuard_agg w op t p q us vs het.1
    ·cases h
   ·unfold eqCell at h
    split at h <;> (try (split at h)) <;> (try cases h) <;> cases hx <;> simp [go_sem]
theorem binOp_eq {c:Cfg} {g:Gh} {w:World} {d:Nat} {t:TypeId} {x y:AV} {u v:Value} {b:Bool} (h:eqRec c d t x y=some b) (hx:Rd g w x u) (hy:Rd g w y v)
  (hi: ∀k a k' b,x= .int k a→y= .int k' b→False) (hs: ∀a b,x= .str a→y= .str b→False):
  binOp .eql t u v=(do pure (.bool (←Op.equal t u v)):Sem Value)∧binOp .neq t u v=(do pure (.bool (!(←Op.equal t u v))):Sem Value):=by
 cases d with
 | zero=>cases h
 | succ d=>
  unfold eqRec at h
  cases ht:c.ti t with
  | none=>rw [ht] at h;cases h
  | some i=>
   rw [ht] at h
   simp only at h
   split at h
   ·obtain ⟨us,rfl,hxn,hx'⟩:=hx.agg_inv
    obtain ⟨vs,rfl,hyn,hy'⟩:=hy.agg_inv
    exact ⟨rfl,rfl⟩
   ·unfold eqCell at h
    split at h <;> (try (split at h)) <;> (try cases h) <;> first
     | exact (hi _ _ _ _ rfl rfl).elim
     | exact (hs _ _ rfl rfl).elim
     | (cases hx <;> cases hy <;> exact ⟨rfl,rfl⟩)
theorem bin_sound {P:Program} {c:Cfg} (hc:CfgTy c P) {g:Gh} {bs:List Box} {w:World} (hm:Mem g bs w) {op:BinOp} {t:TypeId} {x y r:AV} {u v:Value} (hx:Rd g w x u) (hy:Rd g w y v) (h:binA c t op x y=some r) (p q:Operand):
  OpOk ((do pure (Next.value (←(do eqGuard op t p q u v;binOp op t u v))):Sem Next).run P w) g w bs r:=by
 have key: ∀z,(eqGuard op t p q u v).run P w= .ok () w→(binOp op t u v).run P w= .ok z w→Rd g w r z→OpOk ((do pure (Next.value (←(do eqGuard op t p q u v;binOp op t u v))):Sem Next).run P w) g w bs r:=fun z h1 h2 h3=>
  .pure (v:=z) (by simp [h1,h2]) hm h3
 unfold binA at h
 split at h
 ·rename_i k a k' b
  obtain rfl:=hx.int_inv
  obtain rfl:=hy.int_inv
  split at h
  ·obtain ⟨z,h1,h2⟩:=shiftOp_run P w t .shl k k' a b r h (.inl rfl)
   exact key z (by simp [go_sem]) h1 (h2 g)
  ·obtain ⟨z,h1,h2⟩:=shiftOp_run P w t .shr k k' a b r h (.inr rfl)
   exact key z (by simp [go_sem]) h1 (h2 g)
  ·rename_i hs1 hs2
   split at h
   ·rename_i hk
    subst hk
    obtain ⟨z,h1,h2⟩:=intOp_run P w t op k a b r h hs1 hs2
    exact key z (by simp [go_sem]) h1 (h2 g)
   ·cases h
 ·rename_i a b
  obtain rfl:=hx.str_inv
  obtain rfl:=hy.str_inv
  obtain ⟨z,h1,h2⟩:=strOp_run P w t op a b r h
  exact key z (by simp [go_sem]) h1 (h2 g)
 ·rename_i hn1 hn2
  split at h
  ·cases he:eqRec c 20 t x y with
   | none=>rw [he] at h;cases h
   | some b=>
    rw [he] at h
    simp only [Option.map_some,Option.some.injEq] at h
    subst h
    have h1:=eqRec_run hc hm.vars 20 9980 t x y u v b he hx hy
    refine key (.bool b) (eqGuard_run hc he hx hy _ p q) ?_ (.bool b)
    have h2:(Op.equal t u v).run P w= .ok b w:=h1
    rw [(binOp_eq he hx hy hn1 hn2).1];simp [h2]
  ·cases he:eqRec c 20 t x y with
   | none=>rw [he] at h;cases h
   | some b=>
    rw [he] at h
    simp only [Option.map_some,Option.some.injEq] at h
    subst h
    have h1:=eqRec_run hc hm.vars 20 9980 t x y u v b he hx hy
    refine key (.bool (!b)) (eqGuard_run hc he hx hy _ p q) ?_ (.bool (!b))
    have h2:(Op.equal t u v).run P w= .ok b w:=h1
    rw [(binOp_eq he hx hy hn1 hn2).2];simp [h2]
  ·cases h
theorem nil_sound {P:Program} {c:Cfg} (hc:CfgTy c P) {g:Gh} {bs:List Box} {w:World} (hm:Mem g bs w) {op:BinOp} {t:TypeId} {x r:AV} {u v:Value} (hx:Rd g w x u) (h:nilCmp c t op x=some r) (p q:Operand) (hq:nilC q=true) (hv:v= .nilIface):
  OpOk ((do pure (Next.value (←(do eqGuard op t p q u v;binOp op t u v))):Sem Next).run P w) g w bs r:=by
 subst hv
 have hqc:q= .const .nilIface:=by
  unfold nilC at hq;split at hq
  ·rfl
  ·cases hq
 unfold nilCmp at h
 split at h
 ·rename_i i hi
  obtain ⟨info,hinf⟩:=ty_is (hc.ty t i hi)
  split at h
  ·rename_i ms hd
   have hu:P.underlying t=some (.interface ms):=by rw [hinf.und,hd]
   have hg: ∀u,(∃b,Rd g w (.ifc b) u)→ ∀op,(eqGuard op t p q u .nilIface).run P w= .ok () w:=by
    rintro u ⟨b,hb⟩ op
    subst hqc
    cases hb with
    | ifc b v h=>
     rcases h with ⟨_,rfl⟩ | ⟨_,t',p',rfl⟩
     ·cases op <;> simp [eqGuard]
     ·cases op <;> simp [eqGuard]
   have he: ∀b,Rd g w (.ifc b) u→(Op.equal t u .nilIface).run P w= .ok (!b) w:=by
    intro b hb
    cases hb with
    | ifc b v h=>
     rcases h with ⟨rfl,rfl⟩ | ⟨rfl,t',p',rfl⟩
     ·have hn: ∀n,(Op.equalIn (n+1) t .nilIface .nilIface).run P w= .ok true w:=fun n=>by simp [Op.equalIn,run_underlying hu]
      exact hn 9999
     ·have hn: ∀n,(Op.equalIn (n+1) t (.iface t' p') .nilIface).run P w= .ok false w:=fun n=>by simp [Op.equalIn,run_underlying hu]
      exact hn 9999
   split at h
   ·rename_i b
    cases h
    refine .pure (v:= .bool (!b)) ?_ hm (.bool _)
    have h1:=hg u ⟨b,hx⟩ .eql
    have h2:=he b hx
    have h3:binOp .eql t u .nilIface=(do pure (.bool (←Op.equal t u .nilIface)):Sem Value):=by
     cases hx with
     | ifc b v h=>rcases h with ⟨_,rfl⟩ | ⟨_,t',p',rfl⟩ <;> rfl
    rw [h3]
    simp [h1,h2]
   ·rename_i b
    cases h
    refine .pure (v:= .bool b) ?_ hm (.bool _)
    have h1:=hg u ⟨b,hx⟩ .neq
    have h2:=he b hx
    have h3:binOp .neq t u .nilIface=(do pure (.bool (!(←Op.equal t u .nilIface))):Sem Value):=by
     cases hx with
     | ifc b v h=>rcases h with ⟨_,rfl⟩ | ⟨_,t',p',rfl⟩ <;> rfl
    rw [h3]
    simp [h1,h2]
   ·rename_i t' k n
    cases h
    cases hx with
    | ifi=>
     subst hqc
     refine .pure (v:= .bool false) ?_ hm (.bool _)
     have hn: ∀m,(Op.equalIn (m+1) t (.iface t' (.int k n)) .nilIface).run P w= .ok false w:=fun m=>by simp [Op.equalIn,run_underlying hu]
     have h2:(Op.equal t (.iface t' (.int k n)) .nilIface).run P w= .ok false w:=hn 9999
     have h3:binOp .eql t (.iface t' (.int k n)) .nilIface=(do pure (.bool (←Op.equal t (.iface t' (.int k n)) .nilIface)):Sem Value):=rfl
     rw [h3]
     simp [eqGuard,h2]
   ·rename_i t' k n
    cases h
    cases hx with
    | ifi=>
     subst hqc
     refine .pure (v:= .bool true) ?_ hm (.bool _)
     have hn: ∀m,(Op.equalIn (m+1) t (.iface t' (.int k n)) .nilIface).run P w= .ok false w:=fun m=>by simp [Op.equalIn,run_underlying hu]
     have h2:(Op.equal t (.iface t' (.int k n)) .nilIface).run P w= .ok false w:=hn 9999
     have h3:binOp .neq t (.iface t' (.int k n)) .nilIface=(do pure (.bool (!(←Op.equal t (.iface t' (.int k n)) .nilIface))):Sem Value):=rfl
     rw [h3]
     simp [eqGuard,h2]
   ·cases h
  ·cases h
 ·cases h
end Go.Am
