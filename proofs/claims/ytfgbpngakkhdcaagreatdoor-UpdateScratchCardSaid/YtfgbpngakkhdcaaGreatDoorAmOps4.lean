/- Each operation of the abstract machine is sound, fourth part: -/
import Derived.Test.YtfgbpngakkhdcaaGreatDoorAmOps3
open Array renaming foldl_toList->acI
open Bool renaming and_eq_true->abj
open List renaming append_assoc->aa6,foldl_cons->aa2,getD_eq_getElem?_getD->aaE,getElem?_append_left->abt,getElem?_append_right->abW,getElem?_map->abo
open Option renaming map_some->aa1
set_option linter.all false
namespace Go.Am
variable [Kn]
section
variable {P:Program} {g:Gh} {bs:List ad} {w:World}
theorem kH: ∀{cs:List AV} {i:Nat} {c:AV},eS cs=true->cs[i]?=some c->c.cz=true
 | [],i,c,_,h=>by cases h
 | v::r,0,c,hp,h=>by simp only [eS,abj] at hp;simp at h;rw [<-h];exact hp.1
 | v::r,i+1,c,hp,h=>by simp only [eS,abj] at hp;simp at h;exact kH hp.2 h
theorem Rd.cells {d:AV} {v:Value} (h:Rd g w d v) (hd:d≠ .any):v.cells.size=d.cells.length∧ ∀(j:Nat) (x:AV) (u:Value),d.cells[j]?=some x->v.cells[j]?=some u->Rd g w x u:=by
 have one: ∀{d:AV} {v:Value},Rd g w d v->d.cells= [d]->v.cells= #[v]->v.cells.size=d.cells.length∧ ∀(j:Nat) (x:AV) (u:Value),d.cells[j]?=some x->v.cells[j]?=some u->Rd g w x u:=by
  intro d v h h1 h2;rw [h1,h2];refine ⟨rfl,fun j x u hx hu=> ?_⟩;cases j with
  | zero=>simp at hx hu;subst hx;subst hu;exact h
  | succ j=>simp at hx
 cases h with
 | any=>exact absurd rfl hd
 | agg cs vs hn h=>exact ⟨hn,h⟩
 | kc v hv=>exact one (.kc v hv) rfl (by cases v <;> simp [Value.oneCell'] at hv <;> rfl)
 | cM k n i off m sz loc v h1 h hle hv=>exact one (.cM k n i off m sz loc v h1 h hle hv) rfl (by cases v <;> simp [Value.oneCell'] at h1 <;> rfl)
 | ax k n m sz loc v h1 h hle hv=>exact one (.ax k n m sz loc v h1 h hle hv) rfl (by cases v <;> simp [Value.oneCell'] at h1 <;> rfl)
 | gn k n lo hi m sz loc v h1 h hle hv=>exact one (.gn k n lo hi m sz loc v h1 h hle hv) rfl (by cases v <;> simp [Value.oneCell'] at h1 <;> rfl)
 | int k n=>exact one (.int k n) rfl rfl
 | bool b=>exact one (.bool b) rfl rfl
 | str s=>exact one (.str s) rfl rfl
 | aL cs vs hn h=>exact one (.aL cs vs hn h) rfl rfl
 | bZ=>exact one .bZ rfl rfl
 | ptr k off b h=>exact one (.ptr k off b h) rfl rfl
 | dj cs b off vals hp h=>exact one (.dj cs b off vals hp h) rfl rfl
 | ag nl sz es a cap b off vals h1 h2 h3 h4 h5 h6 h7=>exact one (.ag nl sz es a cap b off vals h1 h2 h3 h4 h5 h6 h7) rfl rfl
 | cv nl a h=>exact one (.cv nl a h) rfl rfl
 | fn f cs ds vs us h1 h2 h3 h4=>exact one (.fn f cs ds vs us h1 h2 h3 h4) rfl rfl
 | eG=>exact one .eG rfl rfl
 | gR b v h=>exact one (.gR b v h) rfl (by rcases h with ⟨_,rfl⟩ | ⟨_,_,_,rfl⟩ <;> rfl)
 | ma t k n=>exact one (.ma t k n) rfl rfl
 | gm k b s env r h1 h2 h3=>exact one (.gm k b s env r h1 h2 h3) rfl rfl
 | bT k b h=>exact one (.bT k b h) rfl rfl
 | lE k b h=>exact one (.lE k b h) rfl rfl
 | ja=>exact one .ja rfl rfl
theorem fT {d:AV} (h:eS d.cells=true):d≠ .any:=by rintro rfl;simp [AV.cells,eS,AV.cz] at h
theorem pb (v:Value):v.cells.size=(gA v).cells.length∧ ∀(j:Nat) (x:AV) (u:Value),(gA v).cells[j]?=some x->v.cells[j]?=some u->Rd g w x u:=by
 by_cases h:gA v= .any
 ·refine ⟨?_,fun j x u hx hu=> ?_⟩
  ·rw [h];cases v <;> simp [gA,jH] at h <;> first | rfl | (split at h <;> simp at h)
  ·rw [h] at hx;cases j with
   | zero=>simp [AV.cells] at hx;subst hx;exact .any _
   | succ j=>simp [AV.cells] at hx
 ·exact (rd_val g w v).cells h
theorem Be (hm:Mem g bs w) {id:Nat} {cs:List AV} {c:Array Value} {ty:TypeId} {r:Result Next} {bs':List ad} (he:(c9.new (.var ty cs)).on bs id=some bs')
  (hr:r= .ok (.value (.pointer (some ⟨w.heap.size,0,none⟩))) (w.alloc (.cells c ty))) (hn:c.size=cs.length) (h: ∀(j:Nat) (x:AV) (u:Value),cs[j]?=some x->c[j]?=some u->Rd g w x u):
  cT r g w bs' (.ptr id 0):=by
 simp only [c9.on] at he;split at he
 ·rename_i hd;cases he;have hid:=ah hd;have hd':ad.at bs id= .dead:=by simp [ad.at,aaE,hd]
  have hold: ∀b,b<w.heap.size->(w.alloc (.cells c ty)).heap[b]?=w.heap[b]?:=fun b hb=>cr w _ hb;have hsz:w.heap.size<=(w.alloc (.cells c ty)).heap.size:=by simp
  have hblk: ∀b,(GE.var w.heap.size).bw=some b->w.heap.size<=b:=fun b hb=>by simp [GE.bw] at hb;omega
  have hl:Le g w (g.put id (.var w.heap.size)) (w.alloc (.cells c ty)):=xy (by rw [hm.no id hd'];exact .no _) (fun b o hb=>bS (hold b (hm.cR b o hb).1) o)
  obtain ⟨m',l'⟩:=hm.new (x:= .var ty cs) (ge:= .var w.heap.size) hid hd' hold hsz hblk (by simp) (fun ty' cs' hcs=>by
   cases hcs;exact ⟨_,rfl,c,dp w _,hn,fun j x v hx hv=>(h j x v hx hv).mono hl⟩) (fun sh sz es h=>by cases h)
  exact ⟨_,_,_,_,hr,.inl rfl,m',l',Fr.new hsz hold hblk rfl rfl rfl,.ptr id 0 _ (Gh.bY _ _ _)⟩
 ·cases he
theorem Bf (hm:Mem g bs w) {r:Result Next} {w':World} {v:Value} {d:AV} (hr:r= .ok (.value v) w') (hold: ∀b,b<w.heap.size->w'.heap[b]?=w.heap[b]?) (hsz:w.heap.size<=w'.heap.size)
  (hos:w'.os=w.os) (ht:w'.tape=w.tape) (ho:w'.output=w.output) (hd:Rd g w' d v):cT r g w bs d:=by
 have hl:Le g w g w':=⟨fun _ _ h=>h,fun b o hb=>bS (hold b (hm.cR b o hb).1) o,fun _=> .same _⟩;refine ⟨_,v,w',g,hr,.inl rfl,⟨hm.no,fun k ty cs hk=> ?_,fun k sh sz es hk=> ?_,fun k st hk=> ?_,fun k es clock hk=> ?_,hm.gone,fun k o hk=> ?_,hm.inj,fun b o hs=>⟨Nat.lt_of_lt_of_le (hm.cR b o hs).1 hsz,(hm.cR b o hs).2⟩,hm.A4 hold (fun k b hb=> .inl hb)⟩,hl,⟨hsz,fun b hb hn=>⟨hold b hb,hn,fun _ h=>h⟩,hos,ht,ho⟩,hd⟩
 ·obtain ⟨b,he,hv⟩:=hm.var k ty cs hk;exact ⟨b,he,hv.mono hl (hold b (hm.cC (k:=k) (by rw [he];rfl)))⟩
 ·obtain ⟨loc,he,hs⟩:=hm.sl k sh sz es hk;exact ⟨loc,he,hs.mono hl (fun p hp=>hold p.1 (hm.cC (k:=k) (by rw [he,hp];rfl)))⟩
 ·obtain ⟨b,r,he,hs⟩:=hm.loop k st hk;exact ⟨b,r,he,(hold b (hm.cC (k:=k) (by rw [he];rfl))).trans hs⟩
 ·obtain ⟨b,he,hs⟩:=hm.mp k es clock hk;exact ⟨b,he,hs.mono hl (hold b (hm.cC (k:=k) (by rw [he];rfl)))⟩
 ·obtain ⟨b,he,hs⟩:=hm.it k o hk;exact ⟨b,he,hs.le hl (hold b (hm.cC (k:=k) (by rw [he];rfl)))⟩
theorem xE (hm:Mem g bs w) {id:Nat} {sz:Nat} {es:List AV} {c:Array Value} {ty:TypeId} {fz:Nat×Nat} {cap:Nat} {r:Result Next} {w':World} {bs':List ad} (he:(c9.new (.sl ⟨false,some ty,none⟩ sz es)).on bs id=some bs')
  (hr:r= .ok (.value (.slice (some ⟨w.heap.size,0,none⟩) es.length cap)) w') (hold: ∀b,b<w.heap.size->w'.heap[b]?=w.heap[b]?) (hsz:w.heap.size<=w'.heap.size) (hb:w'.heap[w.heap.size]?=some (.cells c ty fz))
  (hos:w'.os=w.os) (ht:w'.tape=w.tape) (ho:w'.output=w.output) (hf:KT c fz) (hc:c.size=cap*sz) (hcap:es.length<=cap) (hc1:1<=cap)
  (hok: ∀(i:Nat) (e:AV),es[i]?=some e->e.plain=true∧e.cells.length=sz)
  (h: ∀(i j:Nat) (e x:AV) (v:Value),es[i]?=some e->e.cells[j]?=some x->c[i*sz+j]?=some v->Rd g w x v∧v.oneCell'=true):cT r g w bs' (.ax id es.length):=by
 simp only [c9.on] at he;split at he
 ·rename_i hd;cases he;have hid:=ah hd;have hd':ad.at bs id= .dead:=by simp [ad.at,aaE,hd]
  have hblk: ∀b,(GE.sl es.length sz (some (w.heap.size,cap))).bw=some b->w.heap.size<=b:=fun b hb=>by simp [GE.bw] at hb;omega
  have hl:Le g w (g.put id (.sl es.length sz (some (w.heap.size,cap)))) w':=xy (by rw [hm.no id hd'];exact .no _) (fun b o hb=>bS (hold b (hm.cR b o hb).1) o)
  obtain ⟨m',l'⟩:=hm.new (x:= .sl ⟨false,some ty,none⟩ sz es) (ge:= .sl es.length sz (some (w.heap.size,cap))) hid hd' hold hsz hblk (by simp) (fun _ cs' hcs=>by cases hcs) (fun sh sz' es' h'=>by
   cases h';exact ⟨_,rfl,hok,c,ty,fz,hb,hc,by omega,fun t ht=>⟨by cases ht;rfl,hf.from _⟩,fun i j e x v a1 a2 a3=>⟨(h i j e x v a1 a2 a3).1.mono hl,(h i j e x v a1 a2 a3).2⟩,fun h=>(by cases h),fun _ _ _ _ h=>(by cases h)⟩)
  exact ⟨_,_,_,_,hr,.inl rfl,m',l',Fr.new hsz hold hblk hos ht ho,.ax id _ _ sz _ _ rfl (Gh.bY _ _ _) (Nat.le_refl _) (fun _=> .inl ⟨_,_,rfl,rfl⟩)⟩
 ·cases he
theorem Du {c:av} (hc:bP c P) (hm:Mem g bs w) {t:TypeId} {id:Nat} {r:AV} {e:c9} (h:wq (c.ti t) t id=some (r,e)) {bs':List ad} (he:e.on bs id=some bs'):
  cT ((do pure (Next.value (<-Instr.alloc t true (.tuple #[]))):Sem Next).run P w) g w bs' r:=by
 unfold wq at h;split at h
 ·rename_i i hti;obtain ⟨info,hi⟩:=bG (hc.ty t i hti);split at h
  ·rename_i z hz;cases h;have hzz:=hi.zero;rw [hz] at hzz;cases hv:info.zero with
   | none=>rw [hv] at hzz;cases hzz
   | some v=>rw [hv] at hzz;simp only [aa1,Option.some.injEq] at hzz;subst hzz;obtain ⟨h1,h2⟩:=pb (g:=g) (w:=w) v;exact Be hm he (c:=v.cells) (ty:=t) (by simp [Instr.alloc,zeroValue,typeInfo,hi.info,hv,newVar,newRow]) h1 h2
  ·cases h
 ·cases h
theorem IC (hm:Mem g bs w) {t:TypeId} {id:Nat} {x r:AV} {u:Value} {e:c9} (hx:Rd g w x u) (h:JZ t x.cells id=some (r,e)) {bs':List ad} (he:e.on bs id=some bs'):
  cT ((do pure (Next.value (<-Instr.box t u)):Sem Next).run P w) g w bs' r:=by
 unfold JZ at h;split at h
 ·rename_i hok;cases h;obtain ⟨h1,h2⟩:=hx.cells (fT hok);exact Be hm he (c:=u.cells) (ty:=t) (by simp [Instr.box,newVar,newRow]) h1 h2
 ·cases h
theorem zr (off:Nat): ∀(l:List Value) (s:Nat) (cs:Array Value) (k:Nat),(((l.zipIdx s).foldl (fun cs p=>cs.setIfInBounds (off+p.2) p.1) cs))[k]?=
  if off+s<=k∧k<off+s+l.length∧k<cs.size then l[k-(off+s)]? else cs[k]?
 | [],s,cs,k=>by simp;omega
 | v::r,s,cs,k=>by
  simp only [List.zipIdx_cons,aa2];rw [zr off r (s+1) (cs.setIfInBounds (off+s) v) k];simp only [Array.size_setIfInBounds,List.length_cons];by_cases hk:k=off+s
  ·subst hk;by_cases hlt:off+s<cs.size
   ·rw [if_neg (by omega),if_pos (by omega)];simp [hlt]
   ·rw [if_neg (by omega),if_neg (by omega)];simp [hlt]
  ·by_cases h1:off+s<=k∧k<off+s+(r.length+1)∧k<cs.size
   ·rw [if_pos (by omega),if_pos h1];have:k-(off+s)=(k-(off+(s+1)))+1:=by omega
    rw [this,List.getElem?_cons_succ]
   ·rw [if_neg (by omega),if_neg h1];exact Array.getElem?_setIfInBounds_ne (by omega)
theorem oz (off:Nat): ∀(l:List (Value×Nat)) (cs:Array Value),(l.foldl (fun cs p=>cs.setIfInBounds (off+p.2) p.1) cs).size=cs.size
 | [],cs=>rfl
 | v::r,cs=>by simp only [aa2];rw [oz off r];simp
theorem Dv (vs cs:Array Value) (off k:Nat):(vs.zipIdx.foldl (fun cs (x:Value×Nat)=>cs.setIfInBounds (off+x.2) x.1) cs)[k]?=if off<=k∧k<off+vs.size∧k<cs.size then vs[k-off]? else cs[k]?:=by rw [<-acI,Array.toList_zipIdx,zr];simp
theorem pP (vs cs:Array Value) (off:Nat):(vs.zipIdx.foldl (fun cs (x:Value×Nat)=>cs.setIfInBounds (off+x.2) x.1) cs).size=cs.size:=by rw [<-acI,oz]
theorem jY (cs v:List AV) (off k:Nat) (h:off+v.length<=cs.length):(ab cs off v)[k]?=if off<=k∧k<off+v.length then v[k-off]? else cs[k]?:=by
 unfold ab;have h1:(cs.take off).length=off:=by simp;omega
 by_cases hk:k<off
 ·rw [if_neg (by omega),aa6,abt (by omega),List.getElem?_take,if_pos hk]
 ·by_cases hk2:k<off+v.length
  ·rw [if_pos (by omega),aa6,abW (by omega),h1,abt (by omega)]
  ·rw [if_neg (by omega),aa6,abW (by omega),h1,abW (by omega),List.getElem?_drop];congr 1;omega
theorem fO (cs v:List AV) (off:Nat) (h:off+v.length<=cs.length):(ab cs off v).length=cs.length:=by unfold ab;simp;omega
inductive dy (g:Gh) (w:World):List (Nat×AV)->List (Nat×Value)->Prop where
 | nil:dy g w [] []
 | cons {p:Nat×AV} {q:Nat×Value} {ps:List (Nat×AV)} {qs:List (Nat×Value)} (h:p.1=q.1∧Rd g w p.2 q.2) (t:dy g w ps qs):dy g w (p::ps) (q::qs)
theorem Dw {placeA:Nat->Option (Nat×Nat)} {place:Nat->Option (Nat×Nat)} (hpl: ∀i p,placeA i=some p->place i=some p) {ps:List (Nat×AV)} {qs:List (Nat×Value)} (hps:dy g w ps qs):
  ∀(cs:List AV) (c:Array Value) (cs':List AV),c.size=cs.length->(∀(j:Nat) (x:AV) (u:Value),cs[j]?=some x->c[j]?=some u->Rd g w x u)->uu placeA cs ps=some cs'->
   ∃c',Instr.fill place c qs=some c'∧c'.size=cs'.length∧ ∀(j:Nat) (x:AV) (u:Value),cs'[j]?=some x->c'[j]?=some u->Rd g w x u:=by
 induction hps with
 | nil=>intro cs c cs' hn h hf;cases hf;exact ⟨c,rfl,hn,h⟩
 | @cons p q ps qs hpq _ ih=>
  intro cs c cs' hn h hf;obtain ⟨i,x⟩:=p;obtain ⟨i',v⟩:=q;obtain ⟨rfl,hx⟩:=hpq;simp only [uu] at hf;split at hf
  ·cases hf
  ·rename_i off size hp;split at hf
   ·rename_i hc;obtain ⟨h1,h2,h3⟩:=hc;obtain ⟨k1,k2⟩:=Rd.cells hx (fT h3);simp only at hx h1 h3 k1 k2 hf;have hlen:off+x.cells.length<=cs.length:=by omega
    obtain ⟨c',q1,q2,q3⟩:=ih (ab cs off x.cells) (v.cells.zipIdx.foldl (fun cs (p:Value×Nat)=>cs.setIfInBounds (off+p.2) p.1) c) cs' (by rw [pP,fO _ _ _ hlen,hn])
     (fun j y u hy hu=>by
      rw [jY _ _ _ _ hlen] at hy;rw [Dv] at hu;by_cases hj:off<=j∧j<off+x.cells.length
      ·rw [if_pos hj] at hy;rw [if_pos (by omega)] at hu;exact k2 _ _ _ hy hu
      ·rw [if_neg hj] at hy;rw [if_neg (by omega)] at hu;exact h j y u hy hu) hf
    refine ⟨c',?_,q2,q3⟩;simp only [Instr.fill,hpl _ _ hp];rw [if_neg (by simp;omega)];exact q1
   ·cases hf
theorem tG {t:Env} {a:Act} (ht:fW g w t a): ∀(l:List (Nat×Operand)),dy g w (l.map fun p=>(p.1,ev t p.2)) (l.map fun p=>(p.1,a.eval p.2))
 | []=> .nil
 | p::r=> .cons ⟨rfl,ht.ev p.2⟩ (tG ht r)
theorem xF (w:World): ∀(fs:List Field),(∀f∈fs,∃i,P.info? f.type=some i)->(fs.mapM fun f=>do pure (f.offset,<-sizeOf f.type):Sem (List (Nat×Nat))).run P w= .ok (fs.map fun f=>(f.offset,((P.info? f.type).map (·.size)).getD 0)) w
 | [],_=>rfl
 | f::fs,h=>by
  obtain ⟨i,hi⟩:=h f List.mem_cons_self;have ih:=xF w fs (fun f hf=>h f (List.mem_cons_of_mem _ hf));simp only [List.mapM_cons,Sem.run_bind,sizeOf,typeInfo,run_program,Result.andThen_ok,hi,Sem.run_pure,List.map_cons,aa1,Option.getD_some] at ih⊢;rw [ih];rfl
theorem Dx {c:av} (hc:bP c P) (hm:Mem g bs w) {t:TypeId} {ps:List (Nat×AV)} {qs:Array (Nat×Value)} {r:AV} {e:c9} (hps:dy g w ps qs.toList) (h:sW c (c.ti t) ps=some (r,e)):
  e= .none∧cT ((do pure (Next.value (<-Instr.build t qs)):Sem Next).run P w) g w bs r:=by
 unfold sW at h;split at h
 ·rename_i i hti;obtain ⟨info,hi⟩:=bG (hc.ty t i hti);split at h
  ·rename_i z hz;have hzz:=hi.zero;rw [hz] at hzz;cases hv:info.zero with
   | none=>rw [hv] at hzz;cases hzz
   | some v=>
    rw [hv] at hzz;simp only [aa1,Option.some.injEq] at hzz;subst hzz;obtain ⟨h1,h2⟩:=pb (g:=g) (w:=w) v;split at h
    ·rename_i fs hdesc;cases hf:uu (As i.fields) (gA v).cells ps with
     | none=>rw [hf] at h;cases h
     | some cs=>
      rw [hf] at h;cases h
      have hall: ∀f∈fs.toList,∃i,P.info? f.type=some i:=fun f hf=>by
       have:=hi.fok;rw [hdesc] at this;simp only [wG,List.all_eq_true] at this;exact Option.isSome_iff_exists.1 (this f hf)
      obtain ⟨c',q1,q2,q3⟩:=Dw (place:=fun k=>(fs.toList.map fun f=>(f.offset,((P.info? f.type).map (·.size)).getD 0)).toArray[k]?) (fun k p hp=>by
       rw [As,hi.fields,hdesc] at hp;simp only [fieldsOf,abo] at hp;simp only [List.getElem?_toArray,abo];cases hk:fs.toList[k]? with
       | none=>rw [hk] at hp;cases hp
       | some f=>rw [hk] at hp;simpa using hp) hps _ _ _ h1 h2 hf
      refine ⟨rfl,.pure (v:= .agg c') ?_ hm (.agg _ _ q2 q3)⟩;simp only [Instr.build,zeroValue,typeInfo,Sem.run_bind,run_program,Result.andThen_ok,hi.info,Sem.run_pure,hv,run_underlying (hdesc▸hi.fq),Array.mapM_eq_mapM_toList,Sem.run_map,xF w _ hall,q1]
    ·rename_i n el hdesc;split at h
     ·rename_i j hj;obtain ⟨einfo,hej⟩:=bG (hc.ty el j hj);cases hf:uu (Au j.size) (gA v).cells ps with
      | none=>rw [hf] at h;cases h
      | some cs=>rw [hf] at h;cases h;obtain ⟨c',q1,q2,q3⟩:=Dw (place:=fun i=>some (i*j.size,j.size)) (fun i p hp=>by simpa [Au] using hp) hps _ _ _ h1 h2 hf;refine ⟨rfl,.pure (v:= .agg c') ?_ hm (.agg _ _ q2 q3)⟩;simp [Instr.build,zeroValue,typeInfo,hi.info,hv,run_underlying (hdesc▸hi.fq),sizeOf,hej.info,hej.size,q1]
     ·cases h
    ·cases h
  ·cases h
 ·cases h
end
end Go.Am
