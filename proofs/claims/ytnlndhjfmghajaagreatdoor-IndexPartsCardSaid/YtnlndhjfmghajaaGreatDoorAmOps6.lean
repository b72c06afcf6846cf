/- Each operation of the abstract machine is sound, sixth part: -/
import Derived.Test.YtnlndhjfmghajaaGreatDoorAmLend
import Derived.Laws.Append
set_option linter.all false
namespace Go.Am
variable [Kn]
section
variable {P:Program} {g:Gh} {bs:List Box} {w:World}
theorem seg_get {α:Type} (cs v:List α) (off k:Nat) (h:off+v.length≤cs.length):(cs.take off++v++cs.drop (off+v.length))[k]?=if off≤k∧k<off+v.length then v[k-off]? else cs[k]?:=by
 have h1:(cs.take off).length=off:=by simp;omega
 by_cases hk:k<off
 ·rw [if_neg (by omega),List.append_assoc,List.getElem?_append_left (by omega),List.getElem?_take,if_pos hk]
 ·by_cases hk2:k<off+v.length
  ·rw [if_pos (by omega),List.append_assoc,List.getElem?_append_right (by omega),h1,List.getElem?_append_left (by omega)]
  ·rw [if_neg (by omega),List.append_assoc,List.getElem?_append_right (by omega),h1,List.getElem?_append_right (by omega),List.getElem?_drop]
   congr 1;omega
theorem row_get (c:Array Value) (vs:List Value) (off k:Nat) (h:off+vs.length≤c.size):
  (c.toList.take off++vs++c.toList.drop (off+vs.length)).toArray[k]?=if off≤k∧k<off+vs.length then vs[k-off]? else c[k]?:=by
 rw [List.getElem?_toArray,seg_get _ _ _ _ (by simpa using h)]
 split
 ·rfl
 ·exact Array.getElem?_toList
theorem row_size (c:Array Value) (vs:List Value) (off:Nat) (h:off+vs.length≤c.size):(c.toList.take off++vs++c.toList.drop (off+vs.length)).toArray.size=c.size:=by
 simp;omega
theorem stored_cells {x:AV} {u:Value} (hx:Rd g w x u) (hok:cellsOk x.cells=true):
  u.cells.size=x.cells.length∧(∀(j:Nat) (y:AV) (v:Value),x.cells[j]?=some y→u.cells.toList[j]?=some v→Rd g w y v)∧ ∀v∈u.cells.toList,v.oneCell'=true:=by
 obtain ⟨h1,h2⟩:=hx.cells (ne_any_of_cells hok)
 refine ⟨h1,fun j y v hy hv=>h2 j y v hy (by simpa using hv),fun v hv=> ?_⟩
 obtain ⟨j,hj,rfl⟩:=List.mem_iff_getElem.1 hv
 have hj':j<x.cells.length:=by simp at hj;omega
 have hy:x.cells[j]?=some x.cells[j]:=by simp [hj']
 exact (h2 j _ _ hy (by simp)).one (cellsOk_get hok hy)
theorem plainAll_iff: ∀(cs:List AV),plainAll cs=true↔ ∀x∈cs,x.plain=true
 | []=>by simp [plainAll]
 | v::r=>by simp [plainAll,plainAll_iff r]
theorem storeElem_spec {e e':AV} {off:Nat} {v:List AV} (h:storeElem e off v=some e'):e'.cells=splice e.cells off v∧off+v.length≤e.cells.length∧(e.plain=true→e'.plain=true):=by
 unfold storeElem at h
 split at h
 ·rename_i cs
  split at h
  ·rename_i hc
   cases h
   refine ⟨rfl,hc.1,fun hp=> ?_⟩
   simp only [AV.plain,plainAll_iff] at hp⊢
   have hv:=(plainAll_iff v).1 hc.2
   intro x hx
   simp only [splice,List.mem_append] at hx
   rcases hx with (hx | hx) | hx
   ·exact hp x (List.mem_of_mem_take hx)
   ·exact hv x hx
   ·exact hp x (List.mem_of_mem_drop hx)
  ·cases h
 ·rename_i hne
  have hce:e.cells= [e]:=by cases e <;> first | rfl | exact absurd rfl (hne _)
  split at h
  ·rename_i c
   split at h
   ·rename_i hp
    split at h
    ·cases h
    ·rename_i hnc
     cases h
     have:e'.cells= [e']:=by cases e' <;> first | rfl | exact absurd rfl (hnc _)
     exact ⟨by rw [this,hce];rfl,by rw [hce];simp,fun _=>hp⟩
   ·cases h
  ·cases h
theorem store_elem (hm:Mem g bs w) {t:TypeId} {i:TI} {info:TypeInfo} (hi:TyIs P t i info) {ys:List AV} {u v:Value} (k1:v.cells.size=ys.length) (k2: ∀(j:Nat) (y:AV) (q:Value),ys[j]?=some y→v.cells.toList[j]?=some q→Rd g w y q) (k3: ∀q∈v.cells.toList,q.oneCell'=true) (hlen:ys.length=i.size)
  {k n j off:Nat} (hx:Rd g w (.sptr k n j off) u) {sh:Hd} {sz:Nat} {es:List AV} (hb:Box.at bs k= .sl sh sz es) (hn:n=es.length) (hout:sh.out=false) {ty0:TypeId} (hty0:sh.ty=some ty0)
  {el el':AV} (hel:es[j]?=some el) (hst:storeElem el off ys=some el') {lk:Option (Nat×Nat×Nat×Nat)}
  (hlk: ∀i2 j2 k2 n2,lk=some (i2,j2,k2,n2)→i2=j∧j2=off∧0<ys.length∧ ∀q,v.cells.toList[0]?=some q→Rd g w (.osl k2 n2) q):
  OpOk ((do Instr.storeAt t u v;pure Next.skip:Sem Next).run P w) g w (bs.set k (.sl ⟨sh.out,sh.ty,lk⟩ sz (es.set j el'))) (.tup []):=by
 have hvl:v.cells.toList.length=ys.length:=by simpa using k1
 have hsz:v.cells.size=info.size:=by rw [k1,hlen,hi.size]
 have fin: ∀{b off:Nat} {cc:Array Value} {ty:TypeId} {fz:Nat×Nat},w.heap[b]?=some (.cells cc ty fz)→FreeFrom off cc fz→off+ys.length≤cc.size→u= .pointer (some ⟨b,off,none⟩)→
   (do Instr.storeAt t u v;pure Next.skip:Sem Next).run P w= .ok .skip (w.setRow b (cc.toList.take off++v.cells.toList++cc.toList.drop (off+v.cells.toList.length)).toArray):=by
  intro b off cc ty fz hh hf hl hu
  have hs:=run_storeRow P b off ty fz v.cells.toList 0 cc w hh hf (by omega) k3
  subst hu
  simp only [Nat.add_zero] at hs
  simp [Instr.storeAt,Instr.sureAddr,storeVar,sizeOf,typeInfo,hi.info,hsz,hs]
 obtain ⟨s1,s2,s3⟩:=storeElem_spec hst
 obtain ⟨b,cap,hge,hu,hrow⟩:=hx.sptr_inv hm hb hn (by have:=getElem?_lt hel;omega)
 obtain ⟨loc,hge',hr⟩:=hm.sl k sh sz es hb
 obtain ⟨cc,ty,fz,hh,hcs,hcap,hf',hrd,_⟩:=hrow
 obtain ⟨rfl,hf⟩:=hf' ty0 hty0
 rw [hout] at hf
 have hk:k<bs.length:=at_lt (by rw [hb];simp)
 have hj:=getElem?_lt hel
 have hesz:=(hr.1 j el hel).2
 have hjs:(j+1)*sz≤cap*sz:=Nat.mul_le_mul_right _ (by omega)
 rw [Nat.add_mul] at hjs
 have hin:(j*sz+off)+v.cells.toList.length≤cc.size:=by omega
 have hS: ∀b2 o,g.S b2 o→b2≠b:=fun b2 o hs e=>by
  obtain ⟨_,sz',es',h1,_⟩:=(hm.stab b2 o hs).2 k (by rw [hge,e];rfl)
  rw [hb] at h1;cases h1;cases hout
 have hcell: ∀b2 o,g.S b2 o→(w.setRow b (cc.toList.take (j*sz+off)++v.cells.toList++cc.toList.drop (j*sz+off+v.cells.toList.length)).toArray).cell? ⟨b2,o,none⟩=w.cell? ⟨b2,o,none⟩:=fun b2 o hs=>cell_setRow_other _ _ _ _ (hS b2 o hs)
 have hle:Le g w (g.put2 k (.sl n sz (some (b,cap))) g.S) (w.setRow b (cc.toList.take (j*sz+off)++v.cells.toList++cc.toList.drop (j*sz+off+v.cells.toList.length)).toArray):=⟨fun _ _ h=>h,hcell,fun l=>by
  by_cases e:k=l
  ·subst e;rw [Gh.put2_same,hge];exact .same _
  ·rw [Gh.put2_other _ _ _ e];exact .same _⟩
 have hok': ∀(i2:Nat) (e2:AV),(es.set j el')[i2]?=some e2→e2.plain=true∧e2.cells.length=sz:=fun i2 e2 he2=>by
  rw [List.getElem?_set] at he2
  by_cases e3:j=i2
  ·subst e3
   rw [if_pos rfl,if_pos hj] at he2
   cases he2
   exact ⟨s3 (hr.1 j el hel).1,by rw [s1,splice_length _ _ _ s2,hesz]⟩
  ·rw [if_neg e3] at he2
   exact hr.1 i2 e2 he2
 obtain ⟨m',l',f'⟩:=Mem.upd (id:=k) (x:= .sl ⟨sh.out,sh.ty,lk⟩ sz (es.set j el')) (ge:= .sl n sz (some (b,cap))) (S':=g.S) hm hk (fun _ _ h=>h) hcell (by rw [hge];exact .same _)
  (fun b2 hb2 hne=>setRow_other w b b2 _ (fun e=>hne (by rw [hge,e];rfl))) (by simp) (fun b2 h=> .inl (by rw [hge];exact h)) (by simp) (fun _ _ h=>by cases h)
  (fun sh' sz' es' hes'=>by
   cases hes'
   refine ⟨some (b,cap),by rw [List.length_set,hn],hok',_,ty0,fz,setRow_heap w b cc _ _ fz hh,by rw [row_size _ _ _ hin,hcs],by rw [List.length_set];exact hcap,fun t ht=>⟨by have ht:sh.ty=some t:=ht;rw [hty0] at ht;cases ht;rfl,fun o _ ho=>hf o (Nat.zero_le _) (by rwa [row_size _ _ _ hin] at ho)⟩,fun i2 j2 e2 x2 q he2 hx2 hq=> ?_,fun h=>(by have h:sh.out=true:=h;rw [hout] at h;cases h),fun i2 j2 k2 n2 hl q hq hi2=> ?_⟩
   rotate_left
   ·obtain ⟨rfl,rfl,h0,h1⟩:=hlk i2 j2 k2 n2 hl
    rw [row_get _ _ _ _ hin,if_pos (by omega),Nat.sub_self] at hq
    exact (h1 q hq).mono hle
   rw [row_get _ _ _ _ hin] at hq
   rw [List.getElem?_set] at he2
   by_cases e3:j=i2
   ·subst e3
    rw [if_pos rfl,if_pos hj] at he2
    cases he2
    rw [s1,splice_get _ _ _ _ s2] at hx2
    by_cases hj2:off≤j2∧j2<off+ys.length
    ·rw [if_pos hj2] at hx2
     rw [if_pos (by omega),show j*sz+j2-(j*sz+off)=j2-off by omega] at hq
     exact ⟨(k2 _ _ _ hx2 hq).mono hle,k3 q (List.mem_of_getElem? hq)⟩
    ·rw [if_neg hj2] at hx2
     rw [if_neg (by omega)] at hq
     have:=hrd j j2 el x2 q hel hx2 hq
     exact ⟨this.1.mono hle,this.2⟩
   ·rw [if_neg e3] at he2
    have hl2:=getElem?_lt hx2
    rw [(hr.1 i2 e2 he2).2] at hl2
    rw [if_neg (by
     rintro ⟨a1,a2⟩
     rcases Nat.lt_or_gt_of_ne e3 with hlt | hlt
     ·have:(j+1)*sz≤i2*sz:=Nat.mul_le_mul_right _ hlt
      rw [Nat.add_mul] at this
      omega
     ·have:(i2+1)*sz≤j*sz:=Nat.mul_le_mul_right _ hlt
      rw [Nat.add_mul] at this
      omega)] at hq
    have:=hrd i2 j2 e2 x2 q he2 hx2 hq
    exact ⟨this.1.mono hle,this.2⟩)
  (fun b2 o h=> .inl h) (fun b2 o hs hblk=>by simp only [GE.blk,Option.map_some,Option.some.injEq] at hblk;exact absurd hblk.symm (hS b2 o hs)) rfl rfl rfl
 exact ⟨_,_,_,_,fin hh (fun o _ ho=>hf o (Nat.zero_le _) ho) (by omega) hu,.inr ⟨rfl,rfl⟩,m',l',f',.tup _ _ rfl (fun i c v h=>by simp at h)⟩
theorem store_link (hm:Mem g bs w) {t:TypeId} {i:TI} {info:TypeInfo} (hi:TyIs P t i info) {ys:List AV} {u v:Value} {k' m:Nat} (hys:ys= [.osl k' m]) (k1:v.cells.size=ys.length) (k2: ∀(j:Nat) (y:AV) (q:Value),ys[j]?=some y→v.cells.toList[j]?=some q→Rd g w y q) (k3: ∀q∈v.cells.toList,q.oneCell'=true) (hlen:ys.length=i.size)
  {k n j off:Nat} (hx:Rd g w (.sptr k n j off) u) {sh:Hd} {sz:Nat} {es:List AV} (hb:Box.at bs k= .sl sh sz es) (hn:n=es.length) (hout:sh.out=false) {ty0:TypeId} (hty0:sh.ty=some ty0)
  {el:AV} (hel:es[j]?=some el) {r:AV} {e:Eff} {id:Nat} (h:storeLink bs k k' m j off sh sz es el=some (r,e)) {bs':List Box} (he:e.on bs id=some bs'):
  OpOk ((do Instr.storeAt t u v;pure Next.skip:Sem Next).run P w) g w bs' r:=by
 subst hys
 unfold storeLink at h
 split at h
 ·rename_i l hl hne
  cases hst:storeElem el off [l] with
  | none=>rw [hst] at h;cases h
  | some el'=>
   rw [hst] at h;cases h;cases he
   have hv:v.cells.toList.length=1:=by simpa using k1
   obtain ⟨v0,hv0⟩: ∃v0,v.cells.toList= [v0]:=List.length_eq_one_iff.1 hv
   have hr0:Rd g w (.osl k' m) v0:=k2 0 _ v0 rfl (by rw [hv0];rfl)
   have hlp:l.plain=true:=by
    simp only [lend] at hl
    split at hl
    ·rename_i sh' sz' es' hb'
     split at hl
     ·cases hl
      rfl
     ·cases hl
    ·cases hl
   have hrl:=lend_rd hm (args:= [.osl k' m]) hr0 (fun z hz=>by simpa [AV.leaves] using hz) hl hlp
   obtain ⟨m0,l0,f0⟩:=Mem.share hm [.osl k' m]
   have hk:Box.at (shareAll bs [.osl k' m]) k= .sl sh sz es:=by
    have hne': ¬ k'=k:=by simpa using hne
    rw [at_share,hb]
    have hb0:(k'==k)=false:=by simpa using hne'
    obtain ⟨o,ty,lk⟩:=sh
    simp [leadsTo,hb0]
   obtain ⟨nx,q,w',g2,e1,e2,e3,e4,e5,e6⟩:=store_elem m0 (t:=t) hi (ys:= [l]) (v:=v) k1 (fun j y q hy hq=>by
     cases j with
     | zero=>
      rw [hv0] at hq
      simp only [List.getElem?_cons_zero,Option.some.injEq] at hy hq
      subst hy;subst hq
      exact Rd.of_plain (g:=g.lent bs [.osl k' m]) (g':={S:=(g.lent bs [.osl k' m]).S,e:=g.e}) (w:=w) (w':=w) (fun _ _ h=>h) (fun _ _ _=>rfl) hrl hlp
     | succ j=>simp at hy) k3 hlen (hx.mono l0) hk hn hout hty0 hel hst (lk:=some (j,off,k',m)) (fun i2 j2 k2 n2 hlk=>by
     cases hlk
     refine ⟨rfl,rfl,by simp,fun q hq=> ?_⟩
     rw [hv0] at hq
     simp only [List.getElem?_cons_zero,Option.some.injEq] at hq
     subst hq
     exact hr0.mono l0)
   exact ⟨nx,q,w',g2,e1,e2,e3,l0.trans e4,f0.trans e5,e6⟩
 ·cases h
theorem store_sound {c:Cfg} (hc:CfgTy c P) (hm:Mem g bs w) {t:TypeId} {id:Nat} {x y r:AV} {u v:Value} {e:Eff} (hx:Rd g w x u) (hy:Rd g w y v)
  (h:storeA (c.ti t) x y.cells bs=some (r,e)) {bs':List Box} (he:e.on bs id=some bs'):
  OpOk ((do Instr.storeAt t u v;pure Next.skip:Sem Next).run P w) g w bs' r:=by
 unfold storeA at h
 split at h
 ·rename_i i hti
  obtain ⟨info,hi⟩:=ty_is (hc.ty t i hti)
  split at h
  ·rename_i hok
   obtain ⟨hlen,hok⟩:=hok
   obtain ⟨k1,k2,k3⟩:=stored_cells hy hok
   have hvl:v.cells.toList.length=y.cells.length:=by simpa using k1
   have hsz:v.cells.size=info.size:=by rw [k1,hlen,hi.size]
   have fin: ∀{b off:Nat} {cc:Array Value} {ty:TypeId} {fz:Nat×Nat},w.heap[b]?=some (.cells cc ty fz)→FreeFrom off cc fz→off+y.cells.length≤cc.size→u= .pointer (some ⟨b,off,none⟩)→
     (do Instr.storeAt t u v;pure Next.skip:Sem Next).run P w= .ok .skip (w.setRow b (cc.toList.take off++v.cells.toList++cc.toList.drop (off+v.cells.toList.length)).toArray):=by
    intro b off cc ty fz hh hf hl hu
    have hs:=run_storeRow P b off ty fz v.cells.toList 0 cc w hh hf (by omega) k3
    subst hu
    simp only [Nat.add_zero] at hs
    simp [Instr.storeAt,Instr.sureAddr,storeVar,sizeOf,typeInfo,hi.info,hsz,hs]
   split at h
   ·rename_i k off
    split at h
    ·rename_i ty cs hb
     split at h
     ·rename_i hoff
      cases h;cases he
      obtain ⟨b,hge,hu⟩:=hx.ptr_inv
      obtain ⟨b',hge',cc,hh,hn,hcs⟩:=hm.var k ty cs hb
      rw [hge] at hge';cases hge'
      have hk:k<bs.length:=at_lt (by rw [hb];simp)
      have hin:off+v.cells.toList.length≤cc.size:=by omega
      have hS: ∀b2 o,g.S b2 o→b2≠b:=fun b2 o hs e=>by
       obtain ⟨_,sz,es,h1,_⟩:=(hm.stab b2 o hs).2 k (by rw [hge,e];rfl)
       rw [hb] at h1;cases h1
      have hcell: ∀b2 o,g.S b2 o→(w.setRow b (cc.toList.take off++v.cells.toList++cc.toList.drop (off+v.cells.toList.length)).toArray).cell? ⟨b2,o,none⟩=w.cell? ⟨b2,o,none⟩:=fun b2 o hs=>cell_setRow_other _ _ _ _ (hS b2 o hs)
      have hle:Le g w (g.put2 k (.var b) g.S) (w.setRow b (cc.toList.take off++v.cells.toList++cc.toList.drop (off+v.cells.toList.length)).toArray):=⟨fun _ _ h=>h,hcell,fun j=>by
       by_cases e:k=j
       ·subst e;rw [Gh.put2_same,hge];exact .same _
       ·rw [Gh.put2_other _ _ _ e];exact .same _⟩
      obtain ⟨m',l',f'⟩:=Mem.upd (id:=k) (x:= .var ty (splice cs off y.cells)) (ge:= .var b) (S':=g.S) hm hk (fun _ _ h=>h) hcell (by rw [hge];exact .same _)
       (fun b2 hb2 hne=>setRow_other w b b2 _ (fun e=>hne (by rw [hge,e];rfl))) (by simp) (fun b2 h=> .inl (by rw [hge];exact h)) (by simp)
       (fun ty' cs' hcs'=>by
        cases hcs'
        refine ⟨b,rfl,_,setRow_heap w b cc _ ty _ hh,by rw [row_size _ _ _ hin,hn,splice_length _ _ _ hoff],fun j z q hz hq=> ?_⟩
        rw [splice_get _ _ _ _ hoff] at hz
        rw [row_get _ _ _ _ hin] at hq
        by_cases hj:off≤j∧j<off+y.cells.length
        ·rw [if_pos hj] at hz
         rw [if_pos (by omega)] at hq
         exact (k2 _ _ _ hz hq).mono hle
        ·rw [if_neg hj] at hz
         rw [if_neg (by omega)] at hq
         exact (hcs j z q hz hq).mono hle) (fun _ _ _ h=>by cases h)
       (fun b2 o h=> .inl h) (fun b2 o hs hblk=>by simp only [GE.blk,Option.some.injEq] at hblk;exact absurd hblk.symm (hS b2 o hs)) rfl rfl rfl
      exact ⟨_,_,_,_,fin hh (fun _ _ _=>by simp) (by omega) hu,.inr ⟨rfl,rfl⟩,m',l',f',.tup _ _ rfl (fun i c v h=>by simp at h)⟩
     ·cases h
    ·cases h
   ·rename_i k n j off
    split at h
    ·rename_i sh sz es hb
     split at h
     ·rename_i hn
      obtain ⟨hn,hout,hsome⟩:=hn
      obtain ⟨ty0,hty0⟩:=Option.isSome_iff_exists.1 hsome
      split at h
      ·rename_i el hel
       split at h
       ·rename_i k' m hyo
        have hyc:y.cells= [.osl k' m]:=by
         unfold oslOf at hyo
         split at hyo
         ·rename_i h0;cases hyo;exact h0
         ·cases hyo
        exact store_link hm hi hyc k1 k2 k3 hlen hx hb hn hout hty0 hel h he
       cases hst:storeElem el off y.cells with
       | none=>rw [hst] at h;cases h
       | some el'=>
        rw [hst] at h;cases h;cases he
        exact store_elem hm hi k1 k2 k3 hlen hx hb hn hout hty0 hel hst (fun _ _ _ _ h=>by cases h)
      ·cases h
     ·cases h
    ·cases h
   ·cases h
  ·cases h
 ·cases h
end
end Go.Am
