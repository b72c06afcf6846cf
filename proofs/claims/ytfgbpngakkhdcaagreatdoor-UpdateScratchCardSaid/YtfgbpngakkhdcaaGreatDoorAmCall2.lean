/- Calls of the abstract machine are sound, second part: -/
import Derived.Test.YtfgbpngakkhdcaaGreatDoorAmCall
open Bool renaming and_eq_true->abj,not_eq_true'->aax,or_eq_true->abq
open List renaming flatMap_cons->abr,getD_eq_getElem?_getD->aaE,getElem?_append_left->abt,getElem?_cons_zero->abu,getElem?_eq_getElem->aaF,getElem?_eq_none->abv,mapM_cons->abw
open Nat renaming add_mul->abx,one_mul->aby,zero_add->abz
open Option renaming map_some->aa1
set_option linter.all false
namespace Go.Am
variable [Kn]
def dE (g:Gh) (w:World) (bs':List ad) (r:AV) (e:Ending) (w':World):Prop:=
 ∃v g',e= .returned v∧Mem g' bs' w'∧Le g w g' w'∧Fr g w g' w'∧Rd g' w' r v
def mD (P:Program) (f:FuncId):Prop:= ∃fn,P.funcs[f]?=some fn∧(fn.name== "runtime.NumGoroutine")=false∧fn.body.isNone=false
structure qo (P:Program) (cf:aF):Prop where
 fn: ∀f xs bs r bs',cf (.fn f) xs bs=some (r,bs')->mD P f∧ ∀g w (vs:Array Value),Mem g bs w->bt g w xs vs.toList->Calls P f vs w (dE g w bs' r)
 gm: ∀k s env xs bs r bs',cf (.gm k s env) xs bs=some (r,bs')-> ∀g w v (vs:Array Value),Mem g bs w->Rd g w (.gm k s env) v->bt g w xs vs.toList->
  ∃l fn tmps asg body,v= .func (.yield l) #[] #[]∧(Instr.yield l vs).run P w= .ok (.round l fn tmps asg body) w∧RoundIn Fence.wide 0 P l fn tmps asg body w (dE g w bs' r)
def Nf (P:Program) (c:av):Prop:= ∀f G,c.ov f=some G-> ∀xs r,G xs=some r->ai xs=true->mD P f∧ ∀g w (vs:Array Value),Mem g [] w->bt g w xs vs.toList->Calls P f vs w (dE g w [] r)
section
variable {P:Program} {g:Gh} {bs:List ad} {w:World}
theorem ux {c:av} (hc:bP c P) (hm:Mem g bs w) {t:Env} {a:Act} (ht:fW g w t a) {F:ResultVar->Sem Value} (h1: ∀i,F (.tmp i)=pure (a.tmps.getD i undef)) (h2: ∀p ty,F (.cell p ty)=do loadVar ty (<-asAddr (a.tmps.getD p undef))):
  ∀(l:List ResultVar) (rs:List AV),iI c t bs l=some rs-> ∃vs,(l.mapM F).run P w= .ok vs w∧bt g w rs vs
 | [],rs,h=>by cases h;exact ⟨[],rfl,.nil⟩
 | r::l,rs,h=>by
  simp only [iI] at h;split at h
  ·rename_i x xs hx hxs;cases h;obtain ⟨vs,hv,rv⟩:=ux hc hm ht h1 h2 l xs hxs;unfold vy at hx;split at hx
   ·rename_i i;cases hx;exact ⟨a.tmps.getD i undef::vs,by simp only [abw,Sem.run_bind,h1,Sem.run_pure,Result.andThen_ok,hv],.cons (ht.get i) rv⟩
   ·rename_i p ty;split at hx
    ·rename_i k off hp;split at hx
     ·rename_i ty0 cs i hb hi;obtain ⟨info,hti⟩:=bG (hc.ty ty i hi);have hrp:=ht.get p;rw [hp] at hrp;obtain ⟨b,hge,hu⟩:=hrp.gE;obtain ⟨b',hge',cc,hh,hn,hcs⟩:=hm.var k ty0 cs hb;rw [hge] at hge';cases hge'
      have hcells:kB g w b 0 cs:=fun j x hx=>by
       have hj:=ah hx;have hj':j<cc.size:=by omega
       exact ⟨cc[j],by rw [abz,eJ hh];simp [hj'],hcs j x _ hx (by simp [hj'])⟩
      obtain ⟨z,hz,rz⟩:=Ck (P:=P) hti hcells hx;rw [abz] at hz;have hF:(F (.cell p ty)).run P w= .ok z w:=by rw [h2];simp [hu,asAddr,hz]
      exact ⟨z::vs,by simp only [abw,Sem.run_bind,hF,Sem.run_pure,Result.andThen_ok,hv],.cons rz rv⟩
     ·cases hx
    ·cases hx
  ·cases h
theorem HY {c:av} (hc:bP c P) (hm:Mem g bs w) {t:Env} {a:Act} (ht:fW g w t a) {fn:Func} {rs:List AV} (h:iI c t bs fn.results.toList=some rs): ∃v,(results fn a.tmps).run P w= .ok v w∧Rd g w (Ce rs) v:=by
 have key: ∃vs,(results fn a.tmps).run P w= .ok (if h:vs.toArray.size=1 then vs.toArray[0] else .tuple vs.toArray) w∧bt g w rs vs:=by unfold results;rw [Array.mapM_eq_mapM_toList];simp only [Sem.run_bind,Sem.run_map];obtain ⟨vs,hv,rv⟩:=ux (P:=P) hc hm ht (F:=fun | .tmp t=>pure (a.tmps.getD t undef) | .cell p ty=>do loadVar ty (<-asAddr (a.tmps.getD p undef))) (fun _=>rfl) (fun _ _=>rfl) _ _ h;exact ⟨vs,by erw [hv];rfl,rv⟩
 obtain ⟨vs,hrun,rv⟩:=key;refine ⟨_,hrun,?_⟩;cases rv with
 | nil=>exact .aL _ _ rfl (fun i c v h=>by simp at h)
 | @cons x v xs ws hx ht'=>
  cases ht' with
  | nil=>exact hx
  | @cons y u ys us hy ht''=>obtain ⟨k1,k2⟩:=(bt.cons hx (bt.cons hy ht'')).get;rw [dif_neg (by simp)];exact .aL _ _ (by simp at k1;simp [k1]) (fun i c v hc hv=>k2 i c v hc (by simpa using hv))
theorem rE {g0:Gh} {w0:World} {bs0:List ad} (hm0:Mem g0 bs0 w0) {s:St} (hm:Mem g s.b w) (hl:Le g0 w0 g w) (hf:Fr g0 w0 g w) {v:Value} {x r:AV} {bs':List ad} (hx:Rd g w x v) (h:handOver bs0.length s x=some (r,bs')):
  ∃g',Mem g' bs' w∧Le g0 w0 g' w∧Fr g0 w0 g' w∧Rd g' w r v:=by
 unfold handOver at h;split at h
 ·rename_i d hd;split at h
  ·rename_i hu;cases h
   have hle:Le g0 w0 (g.hand s.b bs0.length) w:=⟨fun b o hs=> .inl (hl.S b o hs),hl.cell,fun k=>by
    simp only [Gh.hand];split
    ·exact hl.e k
    ·rw [hm0.no k (by simp [ad.at,aaE,abv (by omega:bs0.length<=k)])];exact .no _⟩
   obtain ⟨m',f'⟩:=hm.hand bs0.length;refine ⟨g.hand s.b bs0.length,?_,hle,hf.trans f',AD hm _ x r v hx hd hu⟩;unfold St.cut;split
   ·rename_i hlen;exact (hm.J9 (by simpa using hlen)).1
   ·exact m'
  ·cases h;exact ⟨g,hm,hl,hf,hx⟩
 ·cases h
theorem EU (hm:Mem g bs w) {args:List AV}: ∀{xs l:List AV} {vs:List Value},bt g w xs vs->(∀z∈aU xs,z∈args)->dC bs xs=some l->ai l=true->bt (g.cS bs args) w l vs:=by
 intro xs l vs hx
 induction hx generalizing l with
 | nil=>intro _ h _;cases h;exact .nil
 | cons h _ ih=>
  intro hin hl hp;simp only [dC] at hl;simp only [aU] at hin;split at hl
  ·rename_i a r ha hr;cases hl;simp only [ai,abj] at hp;exact .cons (AF hm h (fun z hz=>hin z (List.mem_append_left _ hz)) ha hp.1) (ih (fun z hz=>hin z (List.mem_append_right _ hz)) hr hp.2)
  ·cases hl
def Zc:Value->Nat
 | .int _ _=>1
 | .string _=>2
 | .bool _=>3
 | .slice _ _ _=>4
 | _=>0
omit [Kn] in
theorem Rd.Vw {g:Gh} {w:World} {x:AV} {v:Value} (h:Rd g w x v):x.QQ=0∨x.QQ=Zc v:=by cases h <;> first | exact .inl rfl | exact .inr rfl
omit [Kn] in
theorem EV {g g0:Gh} {w w0:World} {x y:AV} {v:Value} (h:Rd g w x v) (k:Rd g0 w0 y v):x.differ y=false:=by
 unfold AV.differ;split
 ·cases h;cases k;simp
 ·rename_i s t;generalize hv:v=u at k;cases h;cases k;simp only [Value.string.injEq,ByteArray.mk.injEq] at hv;have:=congrArg Array.toList hv;simp at this;simp [this]
 ·cases h;cases k;simp
 ·rw [decide_eq_false_iff_not];rintro ⟨h1,h2,h3⟩;have e1:=h.Vw.resolve_left h1;have e2:=k.Vw.resolve_left h2;exact h3 (e1.trans e2.symm)
omit [Kn] in
theorem uy: ∀(a b l:List AV),eT a l=true->eT b (l.drop a.length)=true->eT (a++b) l=true
 | [],_,_,_,h=>h
 | _::_,_, [],h,_=>by cases h
 | x::a,b,y::l,h1,h2=>by
  simp only [eT,abj] at h1;simp only [List.cons_append,eT,abj];exact ⟨h1.1,uy a b l h1.2 h2⟩
omit [Kn] in
theorem yT: ∀(cs l:List AV),(∀(j:Nat) (x:AV),cs[j]?=some x-> ∃y,l[j]?=some y∧x.differ y=false)->eT cs l=true
 | [],_,_=>rfl
 | x::cs, [],h=>by obtain ⟨y,hy,_⟩:=h 0 x rfl;cases hy
 | x::cs,y::l,h=>by
  obtain ⟨z,hz,hd⟩:=h 0 x rfl;cases hz;simp only [eT,abj,aax];exact ⟨hd,yT cs l fun j x hx=>h (j+1) x hx⟩
omit [Kn] in
theorem Cl {sz:Nat} (ys:List AV): ∀(es:List AV) (off:Nat),(∀(i:Nat) (e:AV),es[i]?=some e->e.cells.length=sz)->(∀(i j:Nat) (e x:AV),es[i]?=some e->e.cells[j]?=some x-> ∃y,ys[off+i*sz+j]?=some y∧x.differ y=false)->eT (es.flatMap AV.cells) (ys.drop off)=true
 | [],_,_,_=>rfl
 | e::es,off,hl,h=>by
  rw [abr];refine uy _ _ _ (yT _ _ fun j x hx=> ?_) ?_
  ·have:=h 0 j e x rfl hx;simpa [List.getElem?_drop] using this
  ·rw [List.drop_drop,hl 0 e rfl];refine Cl ys es (off+sz) (fun i e he=>hl (i+1) e he) fun i j e x he hx=> ?_;have:=h (i+1) j e x he hx
   rwa [abx,aby,Nat.add_comm (i*sz) sz,<-Nat.add_assoc] at this
omit [Kn] in
theorem qp {xs:List AV}: ∀(l:List AV) (n:Nat),eT xs (l.drop n)=true->kr xs l=true
 | [],n,h=>by simpa [kr] using h
 | y::l,0,h=>by simp only [kr,abq];exact .inl h
 | y::l,n+1,h=>by simp only [kr,abq];exact .inr (qp l n h)
omit [Kn] in
theorem ey {ys:List AV}: ∀{cs:List AV} {i:Nat} {c:AV},e7 ys cs=true->cs[i]?=some c->c.apart ys=true
 | _::_,0,_,h,hi=>by simp only [e7,abj] at h;cases hi;exact h.1
 | _::_,i+1,_,h,hi=>by simp only [e7,abj] at h;exact ey h.2 hi
omit [Kn] in
theorem Rd.Ka {g g' g0:Gh} {w w0:World} (Y:List AV->Prop)
  (hS: ∀b o,g.S b o->g'.S b o∨ ∃ys,Y ys∧(∀o',g.S b o'->o'<ys.length)∧ ∀(o':Nat) (y:AV),ys[o']?=some y-> ∃v,w.cell? ⟨b,o',none⟩=some v∧Rd g0 w0 y v)
  {d:AV} {v:Value} (h:Rd g w d v):(∀ys,Y ys->d.apart ys=true)->(d.apart []=true)->Rd g' w d v:=by
 induction h with
 | any v=>exact fun _ _=> .any v
 | kc v h=>exact fun _ _=> .kc v h
 | int k n=>exact fun _ _=> .int k n
 | bool b=>exact fun _ _=> .bool b
 | str s=>exact fun _ _=> .str s
 | agg cs vs hn _ ih=>exact fun hy h0=> .agg cs vs hn (fun i c v hc hv=>ih i c v hc hv (fun ys hs=>ey (by simpa only [AV.apart] using hy ys hs) hc) (ey (by simpa only [AV.apart] using h0) hc))
 | aL cs vs hn _ ih=>exact fun hy h0=> .aL cs vs hn (fun i c v hc hv=>ih i c v hc hv (fun ys hs=>ey (by simpa only [AV.apart] using hy ys hs) hc) (ey (by simpa only [AV.apart] using h0) hc))
 | bZ=>exact fun _ _=> .bZ
 | ptr k off b h=>intro _ h0;simp [AV.apart] at h0
 | cM k n i off m sz loc v h1 h hle hv=>intro _ h0;simp [AV.apart] at h0
 | dj cs b off vals hp _ ih=>intro _ h0;simp [AV.apart] at h0
 | ag nl sz es a cap b off vals hnl hnil hcap ha hp hc hr ih=>
  intro hy h0
  have down: ∀{ys:List AV} {i j:Nat} {e x:AV},(AV.ag nl sz es).apart ys=true->es[i]?=some e->e.cells[j]?=some x->x.apart ys=true:=fun {ys i j e x} h he hx=>by
   simp only [AV.apart,abj] at h;have h:=ey h.2 he;cases e with
   | agg cs=>simp only [AV.apart] at h;exact ey h hx
   | _=>cases j with
    | zero=>simp only [AV.cells,abu,Option.some.injEq] at hx;subst hx;exact h
    | succ j=>simp [AV.cells] at hx
  refine .ag nl sz es a cap b off vals hnl hnil hcap ha hp (fun i j e x he hx=>⟨?_,(hc i j e x he hx).2⟩) (fun i j e x he hx=>ih i j e x he hx (fun ys hs=>down (hy ys hs) he hx) (down h0 he hx));rcases hS _ _ (hc i j e x he hx).1 with h | ⟨ys,hys,h1,h2⟩
  ·exact h
  ·exfalso;have hq:=hy ys hys;simp only [AV.apart,abj,abq,aax] at hq;rcases hq.1 with q | q
   ·rw [List.isEmpty_iff] at q;rw [q] at he;cases he
   ·have:=Cl ys es off (fun i e he=>(hp i e he).2) (fun i j e x he hx=>by
     obtain ⟨c1,c2,_⟩:=hc i j e x he hx;have hlt:=h1 _ c1;obtain ⟨v,v1,v2⟩:=h2 _ _ (aaF hlt);rw [c2] at v1;cases v1;exact ⟨_,aaF hlt,EV (hr i j e x he hx) v2⟩)
    rw [qp ys off this] at q;cases q
 | cv nl a h=>exact fun _ _=> .cv nl a h
 | ax k n m sz loc v h1 h hle hv=>intro _ h0;simp [AV.apart] at h0
 | gn k n lo hi m sz loc v h1 h hle hv=>intro _ h0;simp [AV.apart] at h0
 | fn f cs ds vs us hn hm _ _ ih ih'=>intro _ h0;simp [AV.apart] at h0
 | eG=>exact fun _ _=> .eG
 | gR b v h=>exact fun _ _=> .gR b v h
 | ma t k n=>exact fun _ _=> .ma t k n
 | gm k b s env r h hs _ _=>intro _ h0;simp [AV.apart] at h0
 | bT k b h=>intro _ h0;simp [AV.apart] at h0
 | lE k b h=>intro _ h0;simp [AV.apart] at h0
 | ja=>exact fun _ _=> .ja
omit [Kn] in
theorem qq {v:AV} {bs:List ad} {k:Nat} {sh:Hd} {sz:Nat} {es:List AV} (hb:ad.at bs k= .sl sh sz es) (ho:sh.out=false): ∀{args:List AV},dv v bs args=true->args.any (leadsTo k)=true->v.apart (es.flatMap AV.cells)=true
 | [],_,h=>by cases h
 | x::r,h,hk=>by
  rw [List.any_cons,abq] at hk;have tail:dv v bs r=true->r.any (leadsTo k)=true->v.apart (es.flatMap AV.cells)=true:=fun h hk=>qq hb ho h hk
  have here: ∀j,(qk v (ad.at bs j)&&dv v bs r)=true->((j==k)=true∨r.any (leadsTo k)=true)->v.apart (es.flatMap AV.cells)=true:=fun j hj hjk=>by
   rw [abj] at hj;rcases hjk with hjk | hjk
   ·have:j=k:=by simpa using hjk
    subst this;rw [hb] at hj;simpa [qk,ho] using hj.1
   ·exact tail hj.2 hjk
  cases x with
  | ax j n=>exact here j (by simpa only [dv] using h) (by simpa only [leadsTo] using hk)
  | gn j n lo hi=>exact here j (by simpa only [dv] using h) (by simpa only [leadsTo] using hk)
  | _=>exact tail (by simpa only [dv] using h) (hk.resolve_left (by simp [leadsTo]))
omit [Kn] in
theorem wC {sz:Nat}: ∀{es:List AV} {o:Nat} {y:AV},(∀(i:Nat) (e:AV),es[i]?=some e->e.cells.length=sz)->(es.flatMap AV.cells)[o]?=some y-> ∃i j e,es[i]?=some e∧e.cells[j]?=some y∧o=i*sz+j
 | [],o,y,_,h=>by cases h
 | e::es,o,y,hl,h=>by
  rw [abr] at h;have h0:=hl 0 e rfl;by_cases ho:o<e.cells.length
  ·rw [abt ho] at h;exact ⟨0,o,e,rfl,h,by omega⟩
  ·rw [List.getElem?_append_right (by omega)] at h;obtain ⟨i,j,e',h1,h2,h3⟩:=wC (fun i e he=>hl (i+1) e he) h;exact ⟨i+1,j,e',h1,h2,by rw [abx,aby];omega⟩
omit [Kn] in
theorem wD {sz:Nat}: ∀{es:List AV},(∀(i:Nat) (e:AV),es[i]?=some e->e.cells.length=sz)->(es.flatMap AV.cells).length=es.length*sz
 | [],_=>by simp
 | e::es,hl=>by
  rw [abr,List.length_append,hl 0 e rfl,wD (fun i e he=>hl (i+1) e he),List.length_cons,abx];omega
omit [Kn] in
mutual
theorem yU: ∀{v:AV} {ys:List AV},v.apart ys=true->v.apart []=true
 | .ag _ _ es,ys,h=>by
  simp only [AV.apart,abj,abq,aax] at h⊢;refine ⟨h.1.imp_right fun h1=> ?_,jm h.2⟩;rw [kr];cases hc:eT (es.flatMap AV.cells) [] with
  | false=>rfl
  | true=>rw [qp ys ys.length (by rw [List.drop_length];exact hc)] at h1;cases h1
 | .agg cs,ys,h=>by simp only [AV.apart] at h⊢;exact jm h
 | .aL cs,ys,h=>by simp only [AV.apart] at h⊢;exact jm h
 | .any,_,h=>by simpa only [AV.apart] using h
 | .kc,_,h=>by simpa only [AV.apart] using h
 | .int _ _,_,h=>by simpa only [AV.apart] using h
 | .bool _,_,h=>by simpa only [AV.apart] using h
 | .str _,_,h=>by simpa only [AV.apart] using h
 | .bZ,_,h=>by simpa only [AV.apart] using h
 | .ptr _ _,_,h=>by simpa only [AV.apart] using h
 | .cM _ _ _ _,_,h=>by simpa only [AV.apart] using h
 | .dj _,_,h=>by simpa only [AV.apart] using h
 | .cv _,_,h=>by simpa only [AV.apart] using h
 | .ax _ _,_,h=>by simpa only [AV.apart] using h
 | .gn _ _ _ _,_,h=>by simpa only [AV.apart] using h
 | .fn _ _ _,_,h=>by simpa only [AV.apart] using h
 | .eG,_,h=>by simpa only [AV.apart] using h
 | .gR _,_,h=>by simpa only [AV.apart] using h
 | .ma _ _ _,_,h=>by simpa only [AV.apart] using h
 | .gm _ _ _,_,h=>by simpa only [AV.apart] using h
 | .bT _,_,h=>by simpa only [AV.apart] using h
 | .lE _,_,h=>by simpa only [AV.apart] using h
 | .ja,_,h=>by simpa only [AV.apart] using h
theorem jm: ∀{vs ys:List AV},e7 ys vs=true->e7 [] vs=true
 | [],_,_=>rfl
 | v::r,ys,h=>by
  simp only [e7,abj] at h⊢;exact ⟨yU h.1,jm h.2⟩
end
theorem EW (hm:Mem g bs w) {args:List AV} {v:AV} (hp:v.plain=true) (ha:dv v bs args=true) {w':World} {g':Gh} {val:Value} (m':Mem g' [] w') (l':Le (g.cS bs args) w g' w') (f':Fr (g.cS bs args) w g' w') (rv:Rd g' w' v val)
  (hno: ∀b,b<w.heap.size->w'.heap[b]?=w.heap[b]?∧ ∀o,g'.S b o->(g.cS bs args).S b o):dE g w bs v (.returned val) w':=by
 have hold: ∀b,b<w.heap.size->w'.heap[b]?=w.heap[b]?:=fun b hb=>(hno b hb).1
 obtain ⟨m1,l1⟩:=hm.after (w':=w') (S':=fun b o=>g'.S b o∧(b<w.heap.size->g.S b o)) (sh':=fun _=>false) (bs':=bs) (fun k=>by cases ad.at bs k <;> simp) hold (fun b o h=>⟨l'.S b o (.inl h),fun _=>h⟩) (fun k sh sz es b o h=>by cases h)
  (fun b o hs=>⟨(m'.cR b o hs.1).1,fun hb=> .inl (hs.2 hb)⟩)
 refine ⟨val,{S:=fun b o=>g'.S b o∧(b<w.heap.size->g.S b o),e:=g.e},rfl,m1,l1,⟨f'.size,fun b hb hne=>⟨hold b hb,hne,fun o ho=>ho.2 hb⟩,f'.os,f'.tape,f'.output⟩,?_⟩;by_cases hex: ∃k sh sz es,args.any (leadsTo k)=true∧ad.at bs k= .sl sh sz es∧sh.out=false
 ·refine rv.Ka (g0:=g) (w0:=w) (fun ys=> ∃k sh sz es,args.any (leadsTo k)=true∧ad.at bs k= .sl sh sz es∧sh.out=false∧ys=es.flatMap AV.cells) (fun b o hs=> ?_) (fun ys ⟨k,sh,sz,es,h1,h2,h3,h4⟩=>by rw [h4];exact qq h2 h3 ha h1) (by
   obtain ⟨k,sh,sz,es,h1,h2,h3⟩:=hex;exact yU (qq h2 h3 ha h1))
  by_cases hb:b<w.heap.size
  ·rcases (hno b hb).2 o hs with h1 | ⟨k,sh,sz,es,hin,h2,h3,h4⟩
   ·exact .inl ⟨hs,fun _=>h1⟩
   ·obtain ⟨loc,hge,hr⟩:=hm.sl k sh sz es h2;rw [hge] at h3;cases loc with
    | none=>cases h3
    | some p=>
     obtain ⟨b',cap⟩:=p;simp only [GE.bw,aa1,Option.some.injEq] at h3;subst h3;obtain ⟨c,ty,fz,q1,q2,q3,q4,q5,q6,q7⟩:=hr.2;cases ho:sh.out with
     | true=>exact .inl ⟨hs,fun _=>q6 ho o h4⟩
     | false=>
      have hcl: ∀(i:Nat) (e:AV),es[i]?=some e->e.cells.length=sz:=fun i e he=>(hr.1 i e he).2;refine .inr ⟨es.flatMap AV.cells,⟨k,sh,sz,es,hin,h2,ho,rfl⟩,fun o' hs'=> ?_,fun o' y hy=> ?_⟩
      ·rw [wD hcl];rcases (hno _ hb).2 o' hs' with h1 | ⟨k',sh',sz',es',_,h2',h3',h4'⟩
       ·obtain ⟨ty',sz'',es'',h5,_⟩:=(hm.cR _ o' h1).2 k (by rw [hge];rfl);rw [h2] at h5;cases h5;cases ho
       ·have:=hm.inj k k' _ (by rw [hge];rfl) h3';subst this;rw [h2] at h2';cases h2';exact h4'
      ·obtain ⟨i,j,e,he,hj,rfl⟩:=wC hcl hy;have hi:=ah he;have hjl:=ah hj;rw [hcl i e he] at hjl
       have hlt:i*sz+j<c.size:=by rw [q2];have h9:(i+1)*sz<=cap*sz:=Nat.mul_le_mul_right _ (by omega);rw [abx] at h9;omega
       have hg:c[i*sz+j]?=some c[i*sz+j]:=by simp [hlt]
       refine ⟨c[i*sz+j],?_,(q5 i j e y _ he hj hg).1⟩;rw [bS (hold _ hb),eJ q1,hg]
  ·exact .inl ⟨hs,fun h=>absurd h hb⟩
 ·refine rv.aI (g:=g') (g':={S:=fun b o=>g'.S b o∧(b<w.heap.size->g.S b o),e:=g.e}) (w:=w') (w':=w') (fun b o hs=>⟨hs,fun hb=> ?_⟩) (fun _ _ _=>rfl) hp;rcases (hno b hb).2 o hs with h1 | ⟨k,sh,sz,es,hin,h2,h3,h4⟩
  ·exact h1
  ·obtain ⟨loc,hge,hr⟩:=hm.sl k sh sz es h2;rw [hge] at h3;cases loc with
   | none=>cases h3
   | some p=>
    obtain ⟨b',cap⟩:=p;simp only [GE.bw,aa1,Option.some.injEq] at h3;subst h3;obtain ⟨c,ty,fz,q1,q2,q3,q4,q5,q6,q7⟩:=hr.2;cases ho:sh.out with
    | true=>exact q6 ho o h4
    | false=>exact absurd ⟨k,sh,sz,es,hin,h2,ho⟩ hex
theorem yV (hm:Mem g bs w) {args:List AV} {v r:AV} {e:c9} {id:Nat} (hp:v.plain=true) {kb:Bool} (h:cn kb v args bs=some (r,e)) {bs':List ad} (he:e.on bs id=some bs') {en:Ending} {w':World}
  (hc:dE (g.cS bs args) w [] v en w'):dE g w bs' r en w':=by
 obtain ⟨val,g',rfl,m',l',f',rv⟩:=hc
 have hno: ∀b,b<w.heap.size->w'.heap[b]?=w.heap[b]?∧ ∀o,g'.S b o->(g.cS bs args).S b o:=fun b hb=>by
  obtain ⟨h1,_,h3⟩:=f'.frame b hb (fun k=>by simp [Gh.cS,GE.bw]);exact ⟨h1,h3⟩
 have hold: ∀b,b<w.heap.size->w'.heap[b]?=w.heap[b]?:=fun b hb=>(hno b hb).1;unfold cn at h;split at h
 ·rename_i hfl;cases h;cases he;simp only [abq,aax,abj] at hfl;rcases hfl with (hfl | hfl) | hfl
  ·obtain ⟨m1,l1⟩:=hm.after (w':=w') (S':=g.S) (sh':=fun _=>false) (bs':=bs) (fun k=>by cases ad.at bs k <;> simp) hold (fun _ _ h=>h) (fun k sh sz es b o h=>by cases h)
    (fun b o hs=>⟨Nat.lt_of_lt_of_le (hm.cR b o hs).1 f'.size,fun _=> .inl hs⟩)
   exact ⟨val,{S:=g.S,e:=g.e},rfl,m1,l1,⟨f'.size,fun b hb hne=>⟨hold b hb,hne,fun _ h=>h⟩,f'.os,f'.tape,f'.output⟩,rv.of_flat hfl⟩
  ·have hls: ∀b o,(g.cS bs args).S b o->g.S b o:=fun b o hs=>by
    rcases hs with hs | ⟨k,sh,sz,es,hin,_⟩
    ·exact hs
    ·rw [EX hfl k] at hin;cases hin
   obtain ⟨m1,l1⟩:=hm.after (w':=w') (S':=g'.S) (sh':=fun _=>false) (bs':=bs) (fun k=>by cases ad.at bs k <;> simp) hold (fun b o h=>l'.S b o (.inl h)) (fun k sh sz es b o h=>by cases h)
    (fun b o hs=>⟨(m'.cR b o hs).1,fun hb=> .inl (hls b o ((hno b hb).2 o hs))⟩)
   exact ⟨val,{S:=g'.S,e:=g.e},rfl,m1,l1,⟨f'.size,fun b hb hne=>⟨hold b hb,hne,fun o ho=>hls b o ((hno b hb).2 o ho)⟩,f'.os,f'.tape,f'.output⟩,rv.aI (g:=g') (g':={S:=g'.S,e:=g.e}) (w:=w') (w':=w') (fun _ _ h=>h) (fun _ _ _=>rfl) hp⟩
  ·exact EW hm hp hfl.2 m' l' f' rv hno
 ·cases h;cases he
  obtain ⟨m1,l1⟩:=hm.after (w':=w') (S':=g'.S) (sh':=fun k=>args.any (leadsTo k)) (bs':=aR bs args) (fun k=>nV bs args k) hold (fun b o h=>l'.S b o (.inl h))
   (fun k sh sz es b o hk hb hblk ho=>by
    exact l'.S b o (.inr ⟨k,sh,sz,es,hk,hb,hblk,ho⟩))
   (fun b o hs=>⟨(m'.cR b o hs).1,fun hb=>by
    rcases (hno b hb).2 o hs with h1 | ⟨k,sh,sz,es,hin,h2,h3,h4⟩
    ·exact .inl h1
    ·exact .inr ⟨k,sh,sz,es,hin,h2,h3,h4⟩⟩)
  refine ⟨val,{S:=g'.S,e:=g.e},rfl,m1,l1,⟨f'.size,fun b hb hne=>⟨hold b hb,hne,fun o ho=> ?_⟩,f'.os,f'.tape,f'.output⟩,rv.aI (g:=g') (g':={S:=g'.S,e:=g.e}) (w:=w') (w':=w') (fun _ _ h=>h) (fun _ _ _=>rfl) hp⟩;rcases (hno b hb).2 o ho with h1 | ⟨k,sh,sz,es,hin,h2,h3,h4⟩
  ·exact h1
  ·exact absurd h3 (hne k)
omit [Kn] in
theorem EY {e x:AV} {j:Nat} (h:e.plain=true) (hx:e.cells[j]?=some x):x.plain=true:=by
 cases e with
 | agg cs=>exact bM (cs:=cs) (by simpa only [AV.plain] using h) hx
 | _=>cases j with
  | zero=>simp only [AV.cells,abu,Option.some.injEq] at hx;subst hx;exact h
  | succ j=>simp [AV.cells] at hx
omit [Kn] in
theorem jn (b:List ad) (x:ad) (k:Nat):ad.at (b++ [x]) k=if k=b.length then x else ad.at b k:=by
 simp only [ad.at,aaE];by_cases h1:k<b.length
 ·rw [abt h1,if_neg (by omega)]
 ·by_cases h2:k=b.length
  ·subst h2;simp
  ·rw [if_neg h2,abv (by simp;omega),abv (by omega)]
omit [Kn] in
theorem wE: ∀{args:List AV} {bs:List ad},mv args=false->aR bs args=bs
 | [],_,_=>rfl
 | x::r,bs,h=>by
  cases x <;> simp only [mv,Bool.true_eq_false] at h <;> (simp only [aR];exact wE h)
theorem Kb (hm:Mem g bs w) {args:List AV} {n:Nat} {sh:Hd} {sz:Nat} {es:List AV} {en:Ending} {w':World}
  {b0:List ad} {k0:Nat} (hb0:ad.at b0 k0= .sl sh sz es) (hlk:sh.link=none) (hc:dE (g.cS bs args) w b0 (.ax k0 n) en w'):dE g w (aR bs args++ [.sl sh sz es]) (.ax bs.length n) en w':=by
 obtain ⟨val,g',rfl,m',l',f',rv⟩:=hc
 have hno: ∀b,b<w.heap.size->w'.heap[b]?=w.heap[b]?∧ ∀o,g'.S b o->(g.cS bs args).S b o:=fun b hb=>by
  obtain ⟨h1,_,h3⟩:=f'.frame b hb (fun k=>by simp [Gh.cS,GE.bw]);exact ⟨h1,h3⟩
 have hold: ∀b,b<w.heap.size->w'.heap[b]?=w.heap[b]?:=fun b hb=>(hno b hb).1
 obtain ⟨m1,l1⟩:=hm.after (w':=w') (S':=g'.S) (sh':=fun k=>args.any (leadsTo k)) (bs':=aR bs args) (fun k=>nV bs args k) hold (fun b o h=>l'.S b o (.inl h))
  (fun k sh sz es b o hk hb hblk ho=>by
   exact l'.S b o (.inr ⟨k,sh,sz,es,hk,hb,hblk,ho⟩))
  (fun b o hs=>⟨(m'.cR b o hs).1,fun hb=>by
   rcases (hno b hb).2 o hs with h1 | ⟨k,sh,sz,es,hin,h2,h3,h4⟩
   ·exact .inl h1
   ·exact .inr ⟨k,sh,sz,es,hin,h2,h3,h4⟩⟩)
 have hlen:(aR bs args).length=bs.length:=gF args bs;obtain ⟨loc,hge,hsl⟩:=m'.sl k0 sh sz es hb0
 have hblk: ∀b,(g'.e k0).bw=some b->w.heap.size<=b:=fun b hb=>by
  rcases Nat.lt_or_ge b w.heap.size with h | h
  ·obtain ⟨_,h2,_⟩:=f'.frame b h (fun k=>by simp [Gh.cS,GE.bw]);exact absurd hb (h2 k0)
  ·exact h
 let G:Gh:={S:=g'.S,e:=fun j=>if j=bs.length then g'.e k0 else g.e j}
 have hGn:G.e bs.length=g'.e k0:=by simp [G]
 have hGo: ∀j,j≠bs.length->G.e j=g.e j:=fun j h=>by simp [G,h]
 have hfree:g.e bs.length= .no:=hm.no _ (by simp [ad.at])
 have hlG:Le {S:=g'.S,e:=g.e} w' G w':=⟨fun _ _ h=>h,fun _ _ _=>rfl,fun j=>by
  by_cases h:j=bs.length
  ·subst h;rw [hfree];exact .no _
  ·rw [hGo j h];exact .same _⟩
 have hsl':lI G w' sh sz es loc:=by
  refine ⟨hsl.1,?_⟩;cases loc with
  | none=>exact hsl.2
  | some p=>obtain ⟨c,ty,fz,q1,q2,q3,q4,q5,q6⟩:=hsl.2;exact ⟨c,ty,fz,q1,q2,q3,q4,fun i j e x v a1 a2 a3=>⟨(q5 i j e x v a1 a2 a3).1.aI (g:=g') (g':=G) (w:=w') (w':=w') (fun _ _ h=>h) (fun _ _ _=>rfl) (EY (hsl.1 i e a1).1 a2),(q5 i j e x v a1 a2 a3).2⟩,q6.1,fun _ _ _ _ h=>(by rw [hlk] at h;cases h)⟩
 have m2:Mem G (aR bs args++ [.sl sh sz es]) w':=by
  refine ⟨fun k hk=> ?_,fun k ty cs hk=> ?_,fun k sh' sz' es' hk=> ?_,fun k st hk=> ?_,fun k es clock hk=> ?_,fun k hk=> ?_,fun k o hk=> ?_,fun k l b hk hl=> ?_,fun b o hs=> ?_,fun p hp=>⟨(m1.kn p hp).1,fun k hk=> ?_⟩⟩
  ·rw [jn,hlen] at hk;split at hk
   ·cases hk
   ·rename_i h;rw [hGo k h];exact m1.no k hk
  ·rw [jn,hlen] at hk;split at hk
   ·cases hk
   ·rename_i h;obtain ⟨b,h1,h2⟩:=m1.var k ty cs hk;exact ⟨b,by rw [hGo k h];exact h1,h2.mono hlG rfl⟩
  ·rw [jn,hlen] at hk;split at hk
   ·rename_i h;cases hk;subst h;exact ⟨loc,by rw [hGn];exact hge,hsl'⟩
   ·rename_i h;obtain ⟨loc,h1,h2⟩:=m1.sl k sh' sz' es' hk;exact ⟨loc,by rw [hGo k h];exact h1,h2.mono hlG (fun _ _=>rfl)⟩
  ·rw [jn,hlen] at hk;split at hk
   ·cases hk
   ·rename_i h;obtain ⟨b,r,h1,h2⟩:=m1.loop k st hk;exact ⟨b,r,by rw [hGo k h];exact h1,h2⟩
  ·rw [jn,hlen] at hk;split at hk
   ·cases hk
   ·rename_i h;obtain ⟨b,h1,h2⟩:=m1.mp k es clock hk;exact ⟨b,by rw [hGo k h];exact h1,h2.mono hlG rfl⟩
  ·rw [jn,hlen] at hk;split at hk
   ·cases hk
   ·rename_i h;rw [hGo k h];exact m1.gone k hk
  ·rw [jn,hlen] at hk;split at hk
   ·cases hk
   ·rename_i h;rw [hGo k h];obtain ⟨b,h1,h2⟩:=m1.it k o hk;exact ⟨b,h1,h2.le hlG rfl⟩
  ·by_cases h1:k=bs.length
   ·by_cases h2:l=bs.length
    ·rw [h1,h2]
    ·subst h1;rw [hGn] at hk;rw [hGo l h2] at hl;have:=hblk b hk;have:=hm.cC hl;omega
   ·by_cases h2:l=bs.length
    ·subst h2;rw [hGn] at hl;rw [hGo k h1] at hk;have:=hblk b hl;have:=hm.cC hk;omega
    ·rw [hGo k h1] at hk;rw [hGo l h2] at hl;exact hm.inj k l b hk hl
  ·obtain ⟨h1,h2⟩:=m1.cR b o hs;refine ⟨h1,fun k hk=> ?_⟩;by_cases h:k=bs.length
   ·subst h;rw [hGn] at hk;obtain ⟨ty,sz',es',h3,h4⟩:=(m'.cR b o hs).2 k0 hk;have h3:ad.sl sh sz es= .sl ⟨true,ty,none⟩ sz' es':=hb0.symm.trans h3;exact ⟨ty,sz',es',by rw [jn,hlen,if_pos rfl];exact h3,h4⟩
   ·rw [hGo k h] at hk;obtain ⟨ty,sz',es',h3,h4⟩:=h2 k hk;exact ⟨ty,sz',es',by rw [jn,hlen,if_neg h];exact h3,h4⟩
  ·by_cases h:k=bs.length
   ·subst h;rw [hGn] at hk;exact (m'.kn p hp).2 k0 hk
   ·rw [hGo k h] at hk;exact (m1.kn p hp).2 k hk
 refine ⟨val,G,rfl,m2,l1.trans hlG,⟨f'.size,fun b hb hne=>⟨hold b hb,fun k hk=> ?_,fun o ho=> ?_⟩,f'.os,f'.tape,f'.output⟩,?_⟩
 ·by_cases h:k=bs.length
  ·subst h;rw [hGn] at hk;have:=hblk b hk;omega
  ·rw [hGo k h] at hk;exact hne k hk
 ·rcases (hno b hb).2 o ho with h1 | ⟨k,sh,sz,es,hin,h2,h3,h4⟩
  ·exact h1
  ·exact absurd h3 (hne k)
 ·cases rv with
  | ax _ _ m sz' loc' _ h1 h hle hv=>exact .ax _ _ m sz' loc' _ h1 (by rw [hGn];exact h) hle hv
def GO (P:Program) (c:av):Prop:= ∀f G,c.qg f=some G-> ∀xs bs r k,HT G xs bs=some (r,k)->mD P f∧ ∀g w (vs:Array Value),Mem g bs w->bt g w xs vs.toList->Calls P f vs w (dE g w (bs.set k .gone) r)
theorem Cm {c:av} {cf:aF} (hcf:qo P cf) (hov:Nf P c) (hea:GO P c) (hm:Mem g bs w) {f:FuncId} {args:List AV} {vs:Array Value} (hx:bt g w args vs.toList) {r:AV} {e:c9} {id:Nat}
  (h:ni c cf f args bs=some (r,e)) {bs':List ad} (he:e.on bs id=some bs'):mD P f∧Calls P f vs w (dE g w bs' r):=by
 have all: ∀{v:AV} {bs1:List ad},cf (.fn f) args bs=some (v,bs1)->(some (v,c9.all bs1):Out)=some (r,e)->mD P f∧Calls P f vs w (dE g w bs' r):=fun {v bs1} h1 h2=>by
  cases h2;cases he;obtain ⟨h3,h4⟩:=hcf.fn _ _ _ _ _ h1;exact ⟨h3,h4 g w vs hm hx⟩
 unfold ni at h;split at h
 ·split at h
  ·rename_i G hG;split at h
   ·rename_i hv;cases h;cases he;obtain ⟨h3,h4⟩:=hea f G hG _ _ _ _ hv;exact ⟨h3,h4 g w vs hm hx⟩
   ·cases h
  ·split at h
   ·rename_i h1;exact all h1 h
   ·cases h
 unfold uv at h;split at h
 ·rename_i l hl;split at h
  ·rename_i hp;have hlr:=EU hm (args:=aU args) hx (fun _ h=>h) hl hp;split at h
   ·rename_i G hG;split at h
    ·rename_i v hv;split at h
     ·rename_i hvp;obtain ⟨h1,h2⟩:=hov f G hG l v hv hp;exact ⟨h1,(h2 _ w vs (wF hm (aU args)) hlr).mono fun en w' hc=>yV hm hvp h he hc⟩
     ·cases h
    ·cases h
   ·split at h
    ·rename_i v hv;split at h
     ·rename_i hvp;obtain ⟨h1,h2⟩:=hcf.fn _ _ _ _ _ hv;exact ⟨h1,(h2 _ w vs (wF hm (aU args)) hlr).mono fun en w' hc=>yV hm hvp h he hc⟩
     ·cases h
    ·rename_i hv;split at h
     ·rename_i hfr;obtain ⟨h1,h2⟩:=hcf.fn _ _ _ _ _ hv;obtain ⟨k0,rfl,hb0,hlk⟩:=HS hfr;refine ⟨h1,(h2 _ w vs (wF hm (aU args)) hlr).mono fun en w' hc=> ?_⟩;have h5:=Kb hm hb0 hlk hc;split at h
      ·cases h;cases he;exact h5
      ·rename_i hno;cases h;cases he;rw [wE hno] at h5;exact h5
     ·split at h
      ·rename_i h1;exact all h1 h
      ·cases h
    ·cases h
  ·split at h
   ·rename_i h1;exact all h1 h
   ·cases h
 ·cases h
def Kc (P:Program) (c:av):Prop:= ∀f G,c.EC f=some G-> ∀xs bs r bs',G xs bs=some (r,bs')->mD P f∧ ∀g w (vs:Array Value),Mem g bs w->bt g w xs vs.toList->Calls P f vs w (dE g w bs' r)
def Kd (P:Program) (c:av):Prop:= ∀f G,c.ext f=some G-> ∀xs r,G xs=some r-> ∀g w (vs:Array Value),bt g w xs vs.toList-> ∃v,(callFunc f vs).run P w= .ok (.value v) w∧Rd g w r v
structure Cn (P:Program) (c:av):Prop where
 ov:Nf P c
 EC:Kc P c
 qg:GO P c
 ext:Kd P c
theorem Co {c:av} {cf:aF} (hcf:qo P cf) (hov:Cn P c) (hm:Mem g bs w) {f:FuncId} {args:List AV} {vs:Array Value} (hx:bt g w args vs.toList) {r:AV} {e:c9} {id:Nat}
  (h:nj c cf f args bs=some (r,e)) {bs':List ad} (he:e.on bs id=some bs'):mD P f∧Calls P f vs w (dE g w bs' r):=by
 unfold nj at h;split at h
 ·rename_i G hG;split at h
  ·rename_i hv;cases h;cases he;obtain ⟨h3,h4⟩:=hov.EC f G hG _ _ _ _ hv;exact ⟨h3,h4 g w vs hm hx⟩
  ·cases h
 ·exact Cm hcf hov.ov hov.qg hm hx h he
end
end Go.Am
