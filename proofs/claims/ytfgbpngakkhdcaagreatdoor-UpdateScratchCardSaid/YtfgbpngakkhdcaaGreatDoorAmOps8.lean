/- Each operation of the abstract machine is sound, eighth part: -/
import Derived.Test.YtfgbpngakkhdcaaGreatDoorAmOps7
import Derived.Test.YtfgbpngakkhdcaaGreatDoorAmMap
import Derived.Lib.UnsafeStr
open Array renaming getElem?_append_left->acP,getElem?_modify->acQ
open List renaming eq_nil_of_length_eq_zero->acR,foldlM_cons->acS,getElem?_append->acM,getElem?_append_left->abt,getElem?_append_right->abW,getElem?_take->acD,getElem?_toArray->acN,length_append->aba,length_map->abp,length_pos_iff->aaK,length_take->abc
open Nat renaming add_mul->abx,add_zero->abT,le_refl->aa0,le_trans->abd,mul_le_mul_right->acF,sub_zero->acG,zero_add->abz,zero_le->acH,zero_mul->acT
open Option renaming map_some->aa1
set_option linter.all false
namespace Go.Am
variable [Kn]
section
variable {P:Program} {g:Gh} {bs:List ad} {w:World}
theorem grownCap_le (w:World) (need old:Nat) (e:TypeId):need<=grownCap w need old e:=by show need<=(Question.appendCap need old e).cut _;show need<=need+_;omega
theorem qL {z:Value} {n m cap size:Nat} {olds news:List Value} (hz:z.cells.size=size) (ho:olds.length=n*size) (hn:news.length=m*size) (hcap:n+m<=cap):
  (olds.toArray++news.toArray++Builtin.zeroCells z.cells (cap-(n+m))).size=cap*size:=by
 simp only [Array.size_append,List.size_toArray,Builtin.zeroCells,Array.size_map,Array.size_range,ho,hn,hz];rw [<-abx,<-abx];congr 1;omega
theorem oB {c:av} (hc:bP c P) (hm:Mem g bs w) {st xt ty el:TypeId} {i:TI} {xd:TypeDesc} (hst:P.underlying st=some (.slice el)) (hxt:P.underlying xt=some xd) (hxd:xK xd) (hel:c.ti el=some i)
  {s r:AV} {u x:Value} {xs:List AV} {news:List Value} {e:c9} {id:Nat} (hs:Rd g w s u) (hsrc:Src P g w i.size xs x news) (h:e8 i el bs s xs id=some (r,e)) {bs':List ad} (he:e.on bs id=some bs'):
  cT ((do pure (Next.value (<-Builtin.append_ #[st,xt] ty #[u,x])):Sem Next).run P w) g w bs' r:=by
 obtain ⟨info,hi⟩:=bG (hc.ty el i hel);have hsz:=hi.size
 have zer:nJ i=true-> ∃z,info.zero=some z∧z.cells.size=i.size:=fun hzo=>by
  unfold nJ at hzo;split at hzo
  ·rename_i z hz;have hzz:=hi.zero;rw [hz] at hzz;cases hv:info.zero with
   | none=>rw [hv] at hzz;cases hzz
   | some v=>rw [hv] at hzz;simp only [aa1,Option.some.injEq] at hzz;subst hzz;refine ⟨v,rfl,?_⟩;rw [(pb (g:=g) (w:=w) v).1];simpa using hzo
  ·cases hzo
 have lims: ∀{n:Nat},n*(i.bytes+1)<=bX->n<=9223372036854775807∧n*info.bytes<=140737488355328:=fun {n} hl=>by
  have h1:n<=n*(i.bytes+1):=Nat.le_mul_of_pos_right n (by omega);have h2:n*i.bytes<=n*(i.bytes+1):=Nat.mul_le_mul_left n (by omega);rw [hi.bytes];unfold bX at hl;omega
 have hsrc':Src P g w info.size xs x news:=by rw [hsz];exact hsrc
 /- an empty slice without capacity -/
 have empty: ∀a:Option Addr,u= .slice a 0 0->xs≠ []->xs.length*(i.bytes+1)<=bX->nJ i=true->r= .ax id xs.length->e= .new (.sl ⟨false,some el,none⟩ i.size xs)->
   cT ((do pure (Next.value (<-Builtin.append_ #[st,xt] ty #[u,x])):Sem Next).run P w) g w bs' r:=by
  intro a hu hx hlim hzo hr hee;subst hu;subst hr;subst hee
  ·obtain ⟨z,hz,hzs⟩:=zer hzo;have hpos:=aaK.2 hx;obtain ⟨hl1,hl2⟩:=lims hlim;have hrun:=oA (P:=P) (ty:=ty) (base:=a) (sLen:=0) (sCap:=0) (olds:= []) hst hxt hxd hi.info hz hsrc' (by omega) (by cases a <;> simp [Builtin.firstCells,loadCells,loadCellsFrom]) (by omega) (growslice_fits (by omega) (by simpa using hl2));rw [abz] at hrun;have hge:=grownCap_le w xs.length 0 el;refine xE hm he (aT P w _ _ _ hrun) (fun b hb=>cr w.drew _ hb) (by simp) (dp w.drew _) rfl rfl rfl (fun o _=>by simp) ?_ hge (by omega) hsrc.ok ?_
   ·have:=qL (olds:= []) (n:=0) (news:=news) hzs (by simp) hsrc.gV (cap:=grownCap w xs.length 0 el) (by omega);simpa using this
   ·refine jZ (es:= []) (olds:= []) (fun i j e x v he=>by simp at he) (by simp) (fun i e he=>by simp at he) hsrc.row hsrc.gV hsrc.ok (fun o ho=> ?_);simp only [List.length_nil,abz] at ho;rw [acP (by simp;omega)];simp
 unfold e8 at h;split at h
 ·obtain ⟨a,cap,hu,hnl,hnil⟩:=hs.mT;have ha:a=none:=by have:=hnl _ rfl;simpa using this
  obtain ⟨_,hc0⟩:=hnil ha;split at h
  ·cases h;cases he;subst ha;subst hc0;subst hu;have hn0:news= []:=acR (by rw [hsrc.gV];simp);subst hn0;have hrun:=iQ (P:=P) (ty:=ty) (base:=none) (sLen:=0) (sCap:=0) (w':=w) hst hxt hxd hi.info hsrc' (by simp) (fun a' _=>by simp [storeCells]) (fun _=>rfl);exact .pure (aT P w _ _ _ hrun) hm hs
  ·split at h
   ·rename_i hcond;cases h;exact empty a (by rw [hu,hc0];rfl) (by assumption) hcond.1 hcond.2 rfl rfl
   ·cases h
 ·split at h
  ·cases h;cases he;cases hs with
   | cv _ a hnl=>have hn0:news= []:=acR (by rw [hsrc.gV];simp);subst hn0;have hrun:=iQ (P:=P) (ty:=ty) (base:=a) (sLen:=0) (sCap:=0) (w':=w) hst hxt hxd hi.info hsrc' (by simp) (fun a' _=>by simp [storeCells]) (fun _=>rfl);exact .pure (aT P w _ _ _ hrun) hm (.cv _ a hnl)
  ·split at h
   ·rename_i hcond;cases h;cases hs with
    | cv _ a=>exact empty a rfl (by assumption) hcond.1 hcond.2 rfl rfl
   ·cases h
 ·rename_i k n;split at h
  ·rename_i sh sz es hb;split at h
   ·rename_i hcond;obtain ⟨hn,rfl,hsty,hlim,hzo⟩:=hcond;cases h;cases he;obtain ⟨z,hz,hzs⟩:=zer hzo;obtain ⟨hl1,hl2⟩:=lims hlim;obtain ⟨a,cap,rfl,hels,loc,hge,hr,hl⟩:=hs.jN hm hb hn;subst hn;have hla:(es++xs).length=es.length+xs.length:=aba;by_cases hroom:es.length+xs.length<=cap
    ·rcases hl with ⟨b,rfl,rfl⟩ | ⟨rfl,rfl,rfl,rfl⟩
     ·obtain ⟨cc,ty0,fz,hh,hcs,hcap,hf',hrd,_⟩:=hr.2;obtain ⟨rfl,hf⟩:=hf' _ hsty
      have hbase:es.length*i.size+news.length<=cc.size:=by rw [hsrc.gV,hcs,<-abx];exact acF _ hroom
      have hst':=fr P b (0+es.length*i.size) el fz news 0 cc w hh (fun o ho=>hf o (abd (by split <;> omega) ho)) (by omega) hsrc.one;simp only [abT,abz] at hst';have hrun:=iQ (P:=P) (ty:=ty) (base:=some ⟨b,0,none⟩) (sLen:=es.length) (sCap:=cap) hst hxt hxd hi.info hsrc' hroom (fun a' ha'=>by cases ha';rw [addr_add,hsz,abz];exact hst') (fun h=>by cases h);rw [<-hla] at hrun⊢;refine He hm hb hge (aT P w _ _ _ hrun) (.inl ⟨cap,rfl⟩) (fun _=>rfl) (fun b2 _ hne=>setRow_other w b b2 _ hne) (by simp) (setRow_heap w b cc _ el fz hh) (fun o ho _=> ?_) rfl rfl rfl hsty (fun o hno ho=>hf o (abd (by split <;> (try rw [hla,abx]) <;> omega) hno) (by rwa [gJ _ _ _ hbase] at ho)) (by rw [gJ _ _ _ hbase,hcs]) (by omega) (by omega) (kI hr.1 hsrc.ok) ?_
      ·rw [eJ (setRow_heap w b cc _ el fz hh),eJ hh,mU _ _ _ _ hbase,if_neg (by omega)]
      ·refine jZ (olds:=(cc.toList.take (es.length*i.size))) (fun i2 j e x v he hx hv=> ?_) (by simp;omega) hr.1 hsrc.row hsrc.gV hsrc.ok (fun o ho=> ?_)
       ·rw [acN,acD] at hv;split at hv
        ·exact hrd i2 j e x v he hx (by simpa using hv)
        ·cases hv
       ·have hlen:(cc.toList.take (es.length*i.size)).length=es.length*i.size:=by simp;omega
        rw [mU _ _ _ _ hbase];rw [hlen] at ho;by_cases ho2:o<es.length*i.size
        ·rw [if_neg (by omega),abt (by omega),acD,if_pos ho2];simp
        ·rw [if_pos (by omega),abW (by omega),hlen]
     ·have hx:xs= []:=acR (by simpa using hroom);subst hx;have hn0:news= []:=acR (by rw [hsrc.gV];simp);subst hn0;have hrun:=iQ (P:=P) (ty:=ty) (base:=none) (sLen:=0) (sCap:=0) (w':=w) hst hxt hxd hi.info hsrc' (by simp) (fun a' _=>by simp [storeCells]) (fun _=>rfl);obtain ⟨g',m',l',f',e'⟩:=FH hm hb;exact ⟨_,_,_,g',aT P w _ _ _ hrun,.inl rfl,m',l',f',.ax k 0 0 i.size none _ rfl (by rw [e'];exact hge) (aa0 _) (fun _=> .inr ⟨rfl,rfl,rfl⟩)⟩
    ·have hxne:xs≠ []:=by intro h0;subst h0;have:=hels.cap;simp at hroom;omega
     obtain ⟨olds,hos⟩:=pd (P:=P) (size:=i.size) hels (.inl rfl);have hrun:=oA (P:=P) (ty:=ty) (base:=a) (sLen:=es.length) (sCap:=cap) (olds:=olds) hst hxt hxd hi.info hz hsrc' (by omega) (by rw [hsz];exact hos.first w.drew (fun _=>rfl)) hl1 (growslice_fits (by omega) hl2);rw [<-hla] at hrun⊢;have hgc:=grownCap_le w (es++xs).length cap el;refine He hm hb hge (aT P w _ _ _ hrun) (.inr (aa0 _)) (fun h0=>absurd h0 hxne) (fun b2 hb2 _=>cr w.drew _ hb2) (by simp) (dp w.drew _) (fun o _ h0=>absurd h0 (Nat.lt_irrefl _)) rfl rfl rfl hsty (fun o _ _=>by simp) ?_ hgc (by have:=aaK.2 hxne;omega) (kI hr.1 hsrc.ok) ?_
     ·rw [hla];exact qL hzs hos.gV hsrc.gV (by rw [hla] at hgc;exact hgc)
     ·refine jZ hos.row hos.gV hr.1 hsrc.row hsrc.gV hsrc.ok (fun o ho=> ?_);rw [acP (by simp;omega)];simp [acM]
   ·cases h
  ·cases h
 ·rename_i k n lo hi2;split at h
  ·rename_i sh sz es hb;split at h
   ·rename_i hcond;obtain ⟨hn,rfl,hhn,hxne,rfl,hout,hsty,hlim,hzo⟩:=hcond;cases h;obtain ⟨z,hz,hzs⟩:=zer hzo;obtain ⟨hl1,hl2⟩:=lims hlim;obtain ⟨b,cap,a,rfl,ha,hge,hr,hel⟩:=hs.qm hm hb hn;subst hn;obtain ⟨cc,ty0,fz,hh,hcs,hcap,hf',hrd,_⟩:=hr.2;obtain ⟨rfl,hf⟩:=hf' _ hsty;rw [hout] at hf;have hfree:KT cc fz:=fun o ho=>hf o (acH _) ho
    have ha':a=⟨b,0,none⟩:=by
     rcases ha with h | h
     ·rw [h,acT]
     ·omega
    subst ha';have hlt:(es.take hi2).length=hi2:=by simp;omega
    have hokT:vq i.size (es.take hi2):=fun i2 e he=>by
     rw [acD] at he;split at he
     ·exact hr.1 i2 e he
     ·cases he
    have hla:(es.take hi2++xs).length=hi2+xs.length:=by rw [aba,hlt]
    have hrdT:pQ g w i.size (es.take hi2) (cc.toList.take (hi2*i.size)).toArray:=fun i2 j e x v he hx hv=>by
     rw [acD] at he;split at he
     ·rw [acN,acD] at hv;split at hv
      ·exact hrd i2 j e x v he hx (by simpa using hv)
      ·cases hv
     ·cases he
    have hcs':hi2*i.size<=cc.size:=by rw [hcs];exact acF _ (by omega)
    have htl:(cc.toList.take (hi2*i.size)).length=hi2*i.size:=by simp;omega
    rw [acG,acG];by_cases hroom:hi2+xs.length<=cap
    ·have hbase:hi2*i.size+news.length<=cc.size:=by rw [hsrc.gV,hcs,<-abx];exact acF _ hroom
     have hst':=fr P b (0+hi2*i.size) el fz news 0 cc w hh (fun o _ ho=>hfree o ho) (by omega) hsrc.one;simp only [abT,abz] at hst';have hrun:=iQ (P:=P) (ty:=ty) (base:=some ⟨b,0,none⟩) (sLen:=hi2) (sCap:=cap) hst hxt hxd hi.info hsrc' hroom (fun a' ha'=>by cases ha';rw [addr_add,hsz,abz];exact hst') (fun h=>by cases h);rw [<-hla] at hrun⊢;refine Hf hm hb hge he (aT P w _ _ _ hrun) (.inl rfl) (fun b2 _ hne=>setRow_other w b b2 _ hne) (by simp) (setRow_heap w b cc _ el fz hh) rfl rfl rfl hsty hout (fun o ho=>hfree o (by rwa [gJ _ _ _ hbase] at ho)) (by rw [gJ _ _ _ hbase,hcs]) (by omega) (by omega) (kI hokT hsrc.ok) ?_;refine jZ (olds:=(cc.toList.take (hi2*i.size))) hrdT (by rw [htl,hlt]) hokT hsrc.row hsrc.gV hsrc.ok (fun o ho=> ?_);rw [mU _ _ _ _ hbase];rw [htl] at ho;by_cases ho2:o<hi2*i.size
     ·rw [if_neg (by omega),abt (by omega),acD,if_pos ho2];simp
     ·rw [if_pos (by omega),abW (by omega),htl]
    ·have hpart:=hel.part (lo:=0) (hi:=hi2) (a:=⟨b,0,none⟩) (.inl (by rw [acT])) (acH _) hhn;rw [List.drop_zero,acG,acG] at hpart;obtain ⟨olds,hos⟩:=pd (P:=P) (size:=i.size) hpart.2 (.inl rfl);rw [hlt] at hos;have hrun:=oA (P:=P) (ty:=ty) (base:=some ⟨b,0,none⟩) (sLen:=hi2) (sCap:=cap) (olds:=olds) hst hxt hxd hi.info hz hsrc' (by omega) (by rw [hsz];have h9:=hos.first w.drew (fun _=>rfl);rw [hlt] at h9;exact h9) hl1 (growslice_fits (by omega) hl2);rw [<-hla] at hrun⊢;have hgc:=grownCap_le w (es.take hi2++xs).length cap el;refine Hf hm hb hge he (aT P w _ _ _ hrun) (.inr (aa0 _)) (fun b2 hb2 _=>cr w.drew _ hb2) (by simp) (dp w.drew _) rfl rfl rfl hsty hout (fun o _=>by simp) ?_ hgc (by have:=aaK.2 hxne;omega) (kI hokT hsrc.ok) ?_
     ·rw [hla];exact qL hzs (by rw [hos.gV,hlt]) hsrc.gV (by rw [hla] at hgc;exact hgc)
     ·refine jZ hos.row hos.gV hokT hsrc.row hsrc.gV hsrc.ok (fun o ho=> ?_);rw [acP (by simp;omega)];simp [acM]
   ·cases h
  ·cases h
 ·cases h
theorem Bk {c:av} (hc:bP c P) (hm:Mem g bs w) {st xt ty:TypeId} {s x r:AV} {u v:Value} {e:c9} {id:Nat} (hs:Rd g w s u) (hx:Rd g w x v) (h:im c bs st xt s x id=some (r,e)) {bs':List ad} (he:e.on bs id=some bs'):
  cT ((do pure (Next.value (<-Builtin.append_ #[st,xt] ty #[u,v])):Sem Next).run P w) g w bs' r:=by
 unfold im at h;split at h
 ·rename_i i j hi hj;obtain ⟨iinfo,hii⟩:=bG (hc.ty st i hi);obtain ⟨jinfo,hjj⟩:=bG (hc.ty xt j hj);split at h
  ·rename_i el hdesc;split at h
   ·rename_i k hk;split at h
    ·rename_i e2 hjd;split at h
     ·rename_i sz xs hel;split at h
      ·rename_i hsz;obtain ⟨a,cap,rfl,hels⟩:=ou hm hx hel;obtain ⟨news,hsrc⟩:=pd (P:=P) (size:=k.size) hels hsz;exact oB hc hm (hdesc▸hii.fq) (hjd▸hjj.fq) (.inl ⟨_,rfl⟩) hk hs hsrc h he
      ·cases h
     ·cases h
    ·rename_i hjd;split at h
     ·rename_i l;split at h
      ·rename_i hk1;obtain rfl:=hx.cE;obtain ⟨news,hsrc⟩:=FJ (P:=P) (g:=g) (w:=w) l;exact oB hc hm (hdesc▸hii.fq) (hjd▸hjj.fq) (.inr rfl) hk hs (by rw [hk1];exact hsrc) h he
      ·cases h
     ·cases h
    ·cases h
   ·cases h
  ·cases h
 ·cases h
theorem df.take {sz:Nat} {es:List AV} {a:Option Addr} {cap:Nat} (h:df g w sz es a cap) (m:Nat):df g w sz (es.take m) a cap where
 at_:=fun hne=>by
  obtain ⟨b,off,ha,hc⟩:=h.at_ (fun h0=>hne (by rw [h0];simp));refine ⟨b,off,ha,fun i e he=>hc i e ?_⟩;rw [acD] at he;split at he
  ·exact he
  ·cases he
 ok:=fun i e he=>by
  rw [acD] at he;split at he
  ·exact h.ok i e he
  ·cases he
 nil:=fun ha=>⟨by rw [(h.nil ha).1];simp,(h.nil ha).2⟩
 cap:=by have:=h.cap;rw [abc];omega
theorem K0 (hm:Mem g bs w) {k n lo hi:Nat} {sh:Hd} {sz:Nat} {es:List AV} {b cap:Nat} (hb:ad.at bs k= .sl sh sz es) (hge:g.e k= .sl n sz (some (b,cap))) (hn:n=es.length) (hr:lI g w sh sz es (some (b,cap)))
  (hhi:hi<=n) (hout:sh.out=false) {el:TypeId} (hty:sh.ty=some el) {ys:List AV} {x:Value} {news:List Value} (hs:Src P g w sz ys x news) (hlh:lo+ys.length<=hi):
  ∃w' g',(storeCells ⟨b,lo*sz,none⟩ news 0).run P w= .ok () w'∧Mem g' (bs.set k (.sl ⟨sh.out,sh.ty,none⟩ sz (ab es lo ys))) w'∧Le g w g' w'∧Fr g w g' w':=by
 obtain ⟨hok,cc,ty,fz,hh,hcs,hcap,hf',hrd,_⟩:=hr;obtain ⟨rfl,hf⟩:=hf' el hty;rw [hout] at hf;have hk:k<bs.length:=ff (by rw [hb];simp);have hsp:lo+ys.length<=es.length:=by omega
 have hjs:(lo+ys.length)*sz<=cap*sz:=acF _ (by omega);rw [abx] at hjs;have hsz:=hs.gV;have hin:lo*sz+news.length<=cc.size:=by omega
 have hrun:=fr P b (lo*sz) el fz news 0 cc w hh (fun o _ ho=>hf o (acH _) ho) (by omega) hs.one;simp only [abT] at hrun
 have hS: ∀b2 o,g.S b2 o->b2≠b:=fun b2 o hs e=>by
  obtain ⟨_,sz',es',h1,_⟩:=(hm.cR b2 o hs).2 k (by rw [hge,e];rfl);rw [hb] at h1;cases h1;cases hout
 have hcell: ∀b2 o,g.S b2 o->(w.setRow b (cc.toList.take (lo*sz)++news++cc.toList.drop (lo*sz+news.length)).toArray).cell? ⟨b2,o,none⟩=w.cell? ⟨b2,o,none⟩:=fun b2 o hs=>cell_setRow_other _ _ _ _ (hS b2 o hs)
 have hle:Le g w (g.eE k (.sl n sz (some (b,cap))) g.S) (w.setRow b (cc.toList.take (lo*sz)++news++cc.toList.drop (lo*sz+news.length)).toArray):=⟨fun _ _ h=>h,hcell,fun l=>by
  by_cases e:k=l
  ·subst e;rw [Gh.aZ,hge];exact .same _
  ·rw [Gh.aX _ _ _ e];exact .same _⟩
 have hok': ∀(i2:Nat) (e2:AV),(ab es lo ys)[i2]?=some e2->e2.plain=true∧e2.cells.length=sz:=fun i2 e2 he2=>by
  rw [jY _ _ _ _ hsp] at he2;split at he2
  ·exact hs.ok _ _ he2
  ·exact hok i2 e2 he2
 obtain ⟨m',l',f'⟩:=Mem.gQ (id:=k) (x:= .sl ⟨sh.out,sh.ty,none⟩ sz (ab es lo ys)) (ge:= .sl n sz (some (b,cap))) (S':=g.S) hm hk (fun _ _ h=>h) hcell (by rw [hge];exact .same _)
  (fun b2 hb2 hne=>setRow_other w b b2 _ (fun e=>hne (by rw [hge,e];rfl))) (by simp) (fun b2 h=> .inl (by rw [hge];exact h)) (by simp) (fun _ _ h=>by cases h)
  (fun sh' sz' es' hes'=>by
   cases hes';refine ⟨some (b,cap),by rw [fO _ _ _ hsp,hn],hok',_,el,fz,setRow_heap w b cc _ _ fz hh,by rw [gJ _ _ _ hin,hcs],by rw [fO _ _ _ hsp];exact hcap,fun t ht=>⟨by have ht:sh.ty=some t:=ht;rw [hty] at ht;cases ht;rfl,fun o _ ho=>hf o (acH _) (by rwa [gJ _ _ _ hin] at ho)⟩,fun i2 j2 e2 x2 q he2 hx2 hq=> ?_,fun h=>(by have h:sh.out=true:=h;rw [hout] at h;cases h),fun _ _ _ _ h=>(by cases h)⟩;rw [mU _ _ _ _ hin] at hq;rw [jY _ _ _ _ hsp] at he2;have hl2:=ah hx2;by_cases h3:lo<=i2∧i2<lo+ys.length
   ·rw [if_pos h3] at he2;obtain ⟨d,rfl⟩:=Nat.exists_eq_add_of_le h3.1;rw [Nat.add_sub_cancel_left] at he2;rw [(hs.ok _ _ he2).2] at hl2;have hd:(d+1)*sz<=ys.length*sz:=acF _ (by omega);rw [abx,Nat.one_mul] at hd;rw [abx] at hq;rw [if_pos (by omega),show lo*sz+d*sz+j2-lo*sz=d*sz+j2 by omega] at hq;have:=hs.row d j2 e2 x2 q he2 hx2 (by rw [acN];exact hq);exact ⟨this.1.mono hle,this.2⟩
   ·rw [if_neg h3] at he2;rw [(hok i2 e2 he2).2] at hl2
    rw [if_neg (by
     rintro ⟨a1,a2⟩;rcases Nat.lt_or_ge i2 lo with hlt | hge'
     ·have:(i2+1)*sz<=lo*sz:=acF _ hlt;rw [abx] at this;omega
     ·have:(lo+ys.length)*sz<=i2*sz:=acF _ (by omega);rw [abx] at this;omega)] at hq
    have:=hrd i2 j2 e2 x2 q he2 hx2 hq;exact ⟨this.1.mono hle,this.2⟩)
  (fun b2 o h=> .inl h) (fun b2 o hs hblk=>by simp only [GE.bw,aa1,Option.some.injEq] at hblk;exact absurd hblk.symm (hS b2 o hs)) rfl rfl rfl
 exact ⟨_,_,hrun,m',l',f'⟩
theorem N3 (hm:Mem g bs w) {d:AV} {u:Value} (hd:Rd g w d u) {k n lo hi:Nat} (hp:partOf d=some (k,n,lo,hi)) {sh:Hd} {sz:Nat} {es:List AV} (hb:ad.at bs k= .sl sh sz es) (hn:n=es.length) (hhi:hi<=n):
  ∃a cap,u= .slice a (hi-lo) cap∧(lo<hi-> ∃b cap',a=some ⟨b,lo*sz,none⟩∧g.e k= .sl n sz (some (b,cap'))∧lI g w sh sz es (some (b,cap'))):=by
 unfold partOf at hp;split at hp
 ·cases hp;obtain ⟨a,cap,rfl,_,loc,hge,hr,hl⟩:=hd.jN hm hb hn;refine ⟨a,cap,by rw [hn];rfl,fun hlt=> ?_⟩;rcases hl with ⟨b,rfl,rfl⟩ | ⟨_,h0,_⟩
  ·exact ⟨b,cap,by rw [acT],hge,hr⟩
  ·rw [h0] at hn;simp at hn;omega
 ·cases hp;obtain ⟨b,cap,a,rfl,ha,hge,hr,_⟩:=hd.qm hm hb hn;refine ⟨some a,cap-lo,rfl,fun hlt=> ?_⟩;rcases ha with rfl | ha
  ·exact ⟨b,cap,rfl,hge,hr⟩
  ·obtain ⟨_,_,_,_,_,_,hcap,_⟩:=hr;omega
 ·cases hp
theorem IE (size n:Nat) (a:Option Addr) (l1 l2 c1 c2:Nat):Builtin.firstCells size n (.slice a l1 c1)=Builtin.firstCells size n (.slice a l2 c2):=by cases a <;> rfl
theorem FK {c:av} (hc:bP c P) (hm:Mem g bs w) {st xt ty:TypeId} {d x r:AV} {u v:Value} {e:c9} {id:Nat} (hd:Rd g w d u) (hx:Rd g w x v) (h:wk c bs st d x=some (r,e)) {bs':List ad} (he:e.on bs id=some bs'):
  cT ((do pure (Next.value (<-Builtin.copy_ #[st,xt] ty #[u,v])):Sem Next).run P w) g w bs' r:=by
 unfold wk at h;split at h
 ·rename_i i hi;obtain ⟨iinfo,hii⟩:=bG (hc.ty st i hi);split at h
  ·rename_i el hdesc;have hund:=hdesc▸hii.fq;split at h
   ·rename_i k hk;obtain ⟨info,hinf⟩:=bG (hc.ty el k hk);have hksz:=hinf.size;split at h
    ·rename_i sz xs hel;split at h
     ·rename_i hsz;obtain ⟨a,cap,rfl,hels⟩:=ou hm hx hel
      have none0: ∀(a2:Option Addr) (cap2:Nat),(Builtin.copy_ #[st,xt] ty #[.slice a2 0 cap2,.slice a xs.length cap]).run P w= .ok (.int .i64 0) w:=fun a2 cap2=>by
       have h0:Nat.min xs.length 0=0:=Nat.min_eq_right (acH _);cases a2 <;> cases a <;> simp [Builtin.copy_,run_underlying hund,Builtin.lenOf,sizeOf,typeInfo,hinf.info,h0,Builtin.firstCells,loadCells,loadCellsFrom,storeCells,goInt]
      unfold Ar at h;split at h
      ·rename_i kb n lo hi2 hpart;split at h
       ·rename_i sh sz2 es hb;split at h
        ·rename_i hcond;obtain ⟨hn,hlh,hhi,rfl,hout,hsty⟩:=hcond;obtain ⟨a2,cap2,rfl,hat⟩:=N3 hm hd hpart hb hn hhi;split at h
         ·rename_i heq;cases h;cases he;subst heq;rw [Nat.sub_self];exact .pure (aT P w _ _ _ (none0 a2 cap2)) hm (.int _ _)
         ·rename_i hne;cases h;cases he;obtain ⟨b,cap',rfl,hge,hr⟩:=hat (by omega);obtain ⟨news,hsrc⟩:=pd (P:=P) (size:=k.size) (hels.take (hi2-lo)) (hsz.imp (fun h=>h) (fun h0=>by rw [h0];simp));have hlen:(xs.take (hi2-lo)).length=Nat.min xs.length (hi2-lo):=by rw [abc];exact Nat.min_comm _ _
          have hle:=List.length_take_le (hi2-lo) xs;obtain ⟨w',g',hst,m',l',f'⟩:=K0 (P:=P) hm hb hge hn hr (lo:=lo) (hi:=hi2) hhi hout hsty hsrc (by omega);have hfst:=hsrc.first w (fun _=>rfl);rw [IE k.size _ a _ xs.length _ cap] at hfst
          have hrun:(Builtin.copy_ #[st,xt] ty #[.slice (some ⟨b,lo*k.size,none⟩) (hi2-lo) cap2,.slice a xs.length cap]).run P w= .ok (.int .i64 (xs.take (hi2-lo)).length) w':=by
           have hmin:Nat.min xs.length (hi2-lo)=(xs.take (hi2-lo)).length:=hlen.symm;rw [<-hksz] at hfst;generalize (xs.take (hi2-lo)).length=m at*
           simp [Builtin.copy_,run_underlying hund,Builtin.lenOf,sizeOf,typeInfo,hinf.info,hmin,hfst,hst,goInt]
          exact ⟨_,_,_,_,aT P w _ _ _ hrun,.inl rfl,m',l',f',.int _ _⟩
        ·cases h
       ·cases h
      ·split at h
       ·cases h;cases he;cases hd with
        | cv _ a2 hnl=>exact .pure (aT P w _ _ _ (none0 a2 0)) hm (.int _ _)
       ·cases h
     ·cases h
    ·cases h
   ·cases h
  ·cases h
 ·cases h
inductive bt (g:Gh) (w:World):List AV->List Value->Prop where
 | nil:bt g w [] []
 | cons {x:AV} {v:Value} {xs:List AV} {vs:List Value} (h:Rd g w x v) (t:bt g w xs vs):bt g w (x::xs) (v::vs)
theorem bt.zs {t:Env} {a:Act} (ht:fW g w t a): ∀(l:List Operand),bt g w (ng t l) (l.map a.eval)
 | []=> .nil
 | x::r=> .cons (ht.ev x) (bt.zs ht r)
theorem N4 {xs:List AV} {us:List Value} (h:bt g w xs us): ∀{x r:AV} {u:Value},Rd g w x u->HQ x xs=some r-> ∃v,(us.foldlM Builtin.min2 u:Sem Value).run P w= .ok v w∧Rd g w r v:=by
 induction h with
 | nil=>intro x r u hx h;cases x <;> (cases h;exact ⟨u,rfl,hx⟩)
 | @cons y v ys vs hy _ ih=>
  intro x r u hx h;unfold HQ at h;split at h
  ·rename_i heq;cases heq
  ·rename_i k a k' b rest heq;cases heq;split at h
   ·rename_i hk;subst hk;obtain rfl:=hx.aJ;obtain rfl:=hy.aJ;obtain ⟨z,hz,rz⟩:=ih (.int _ _) h;exact ⟨z,by simpa [acS,Builtin.min2] using hz,rz⟩
   ·cases h
  ·cases h
theorem N5 {xs:List AV} {us:List Value} (h:bt g w xs us): ∀{x r:AV} {u:Value},Rd g w x u->HR x xs=some r-> ∃v,(us.foldlM Builtin.max2 u:Sem Value).run P w= .ok v w∧Rd g w r v:=by
 induction h with
 | nil=>intro x r u hx h;cases x <;> (cases h;exact ⟨u,rfl,hx⟩)
 | @cons y v ys vs hy _ ih=>
  intro x r u hx h;unfold HR at h;split at h
  ·rename_i heq;cases heq
  ·rename_i k a k' b rest heq;cases heq;split at h
   ·rename_i hk;subst hk;obtain rfl:=hx.aJ;obtain rfl:=hy.aJ;obtain ⟨z,hz,rz⟩:=ih (.int _ _) h;exact ⟨z,by simpa [acS,Builtin.max2] using hz,rz⟩
   ·cases h
  ·cases h
theorem FL (hm:Mem g bs w) {ts:Array TypeId} {ty:TypeId} {x r:AV} {u:Value} {e:c9} (hx:Rd g w x u) (h:Cc x bs=some (r,e)):
  e= .none∧ ∃v,(Builtin.unsafeSliceData_ ts ty #[u]).run P w= .ok v w∧Rd g w r v:=by
 unfold Cc at h;split at h
 ·cases h;obtain ⟨a,cap,rfl,hnl,hnil⟩:=hx.mT;have ha:a=none:=by have:=hnl _ rfl;simpa using this
  subst ha;exact ⟨rfl,_,Lib.run_unsafeSliceData_nil w ts ty _ _,.bZ⟩
 ·rename_i k n;split at h
  ·rename_i sh sz es hb;split at h
   ·rename_i hn;cases h;obtain ⟨a,cap,rfl,hels,loc,hge,hr,hl⟩:=hx.jN hm hb hn;rcases hl with ⟨b,rfl,rfl⟩ | ⟨rfl,rfl,rfl,rfl⟩
    ·have hc0:cap≠0:=by obtain ⟨_,_,_,_,_,hcap,_⟩:=hr.2;omega
     refine ⟨rfl,_,Lib.run_unsafeSliceData_row w ts ty _ _ _ hc0,.cM k n 0 0 n sz _ _ rfl hge (aa0 _) (fun _=> .inl ⟨b,cap,rfl,by simp⟩)⟩
    ·exact ⟨rfl,_,Lib.run_unsafeSliceData_nil w ts ty _ _,.cM k n 0 0 n sz _ _ rfl hge (aa0 _) (fun _=> .inr ⟨rfl,hn,rfl⟩)⟩
   ·cases h
  ·cases h
 ·cases h
theorem uU: ∀{es:List AV} {s:List UInt8},k8 es=some s->es=s.map ak
 | [],s,h=>by cases h;rfl
 | .int .u8 n::r,s,h=>by
  simp only [k8] at h;split at h
  ·rename_i hn;cases hr:k8 r with
   | none=>rw [hr] at h;cases h
   | some l=>
    rw [hr] at h;cases h;rw [uU hr];simp only [List.map_cons,ak,List.cons.injEq,AV.int.injEq,true_and,and_true];have:n.toNat<256:=by omega
    simp only [UInt8.toNat_ofNat'];omega
  ·cases h
 | .int .i8 _::_,_,h | .int .i16 _::_,_,h | .int .i32 _::_,_,h | .int .i64 _::_,_,h | .int .u16 _::_,_,h | .int .u32 _::_,_,h | .int .u64 _::_,_,h=>by cases h
 | .any::_,_,h | .kc::_,_,h | .bool _::_,_,h | .str _::_,_,h | .agg _::_,_,h | .aL _::_,_,h | .bZ::_,_,h | .ptr _ _::_,_,h | .cM _ _ _ _::_,_,h | .dj _::_,_,h | .ag _ _ _::_,_,h | .cv _::_,_,h | .ax _ _::_,_,h | .gn _ _ _ _::_,_,h | .fn _ _ _::_,_,h | .eG::_,_,h | .gR _::_,_,h | .ma _ _ _::_,_,h=>by cases h
theorem DE {b:Nat} {c:Array Value} {ty:TypeId} {fz:Nat×Nat} (w:World) (h:w.heap[b]?=some (.cells c ty fz)) (n:Nat): ∃fz',(w.freeze ⟨b,0,none⟩ n).heap[b]?=some (.cells c ty fz'):=by
 unfold World.freeze;split
 ·exact ⟨fz,h⟩
 ·obtain ⟨lo,hi⟩:=fz;simp only [acQ,if_pos,h,aa1];exact ⟨_,rfl⟩
theorem sv {b b2:Nat} (w:World) (n:Nat) (h:b2≠b):(w.freeze ⟨b,0,none⟩ n).heap[b2]?=w.heap[b2]?:=by
 unfold World.freeze;split
 ·rfl
 ·simp [acQ,Ne.symm h]
theorem DG {b:Nat} (w:World) (n:Nat):(w.freeze ⟨b,0,none⟩ n).heap.size=w.heap.size:=by
 unfold World.freeze;split
 ·rfl
 ·simp
theorem FM (hm:Mem g bs w) {t it ty:TypeId} {k m:Nat} {n:Int} {sh:Hd} {ns:List UInt8} {u:Value} (hb:ad.at bs k= .sl sh 1 (ns.map ak)) (hx:Rd g w (.cM k m 0 0) u) (hnm:n=(m:Int)) (hm0:m=0) (hme:m=(ns.map ak).length):
  cT ((do pure (Next.value (<-Builtin.unsafeString_ #[t,it] ty #[u,.int .i64 n])):Sem Next).run P w) g w (bs.set k (.sl ⟨sh.out,none,none⟩ 1 (ns.map ak))) (.str ns):=by
 obtain rfl:ns= []:=by
  cases ns with
  | nil=>rfl
  | cons a l=>simp at hme;omega
 subst hm0;obtain ⟨loc,hge,hr⟩:=hm.sl k sh 1 _ hb;have hk:k<bs.length:=ff (by rw [hb];simp)
 have hu: ∃a,u= .pointer a:=by
  cases hx with
  | cM _ _ _ _ m' sz' loc' _ h1 h hle hv=>
   rw [hge] at h;cases h;rcases hv rfl with ⟨b,cap,_,rfl⟩ | ⟨_,_,rfl⟩
   ·exact ⟨_,rfl⟩
   ·exact ⟨_,rfl⟩
 obtain ⟨a,rfl⟩:=hu
 have hle:Le g w (g.eE k (g.e k) g.S) w:=⟨fun _ _ h=>h,fun b o _=>rfl,fun j=>by
  by_cases e:k=j
  ·subst e;rw [Gh.aZ];exact .same _
  ·rw [Gh.aX _ _ _ e];exact .same _⟩
 obtain ⟨m',l',f'⟩:=Mem.gQ (id:=k) (x:= .sl ⟨sh.out,none,none⟩ 1 (([]:List UInt8).map ak)) (ge:=g.e k) (S':=g.S) (w':=w) hm hk (fun _ _ h=>h) (fun b o _=>rfl) (.same _)
  (fun b2 hb2 hne=>rfl) (aa0 _) (fun b2 h=> .inl h) (by simp) (fun _ _ h=>by cases h)
  (fun sh' sz' es' hes'=>by
   cases hes';refine ⟨loc,hge,hr.1,?_⟩;cases loc with
   | none=>exact hr.2
   | some p=>
    obtain ⟨cc,ty0,fz,hh,hcs,hcap,hf',hrd,hout⟩:=hr.2;exact ⟨cc,ty0,fz,hh,hcs,hcap,fun t ht=>(by cases ht),fun i j e x v a1 a2 a3=>⟨(hrd i j e x v a1 a2 a3).1.mono hle,(hrd i j e x v a1 a2 a3).2⟩,hout.1,fun _ _ _ _ h=>(by cases h)⟩)
  (fun b2 o h=> .inl h) (fun b2 o hs hblk=>by
   obtain ⟨ty',sz',es',h3,h4⟩:=(hm.cR b2 o hs).2 k hblk;rw [hb] at h3;cases h3;exact ⟨_,_,_,rfl,h4⟩) rfl rfl rfl
 subst hnm;exact ⟨_,_,_,_,aT P w _ _ _ (Lib.run_unsafeString_none w t it ty a),.inl rfl,m',l',f',.str []⟩
theorem FO {c:av} (hc:bP c P) (hm:Mem g bs w) {t it ty u':TypeId} (ht:P.underlying t=some (.pointer u')) {x n r:AV} {u v:Value} {e:c9} {id:Nat} (hx:Rd g w x u) (hn:Rd g w n v) (h:Cd c u' x n bs=some (r,e)) {bs':List ad} (he:e.on bs id=some bs'):
  cT ((do pure (Next.value (<-Builtin.unsafeString_ #[t,it] ty #[u,v])):Sem Next).run P w) g w bs' r:=by
 unfold Cd at h;split at h
 ·cases h;cases he;obtain rfl:=hx.jW;obtain rfl:=hn.aJ;exact .pure (aT P w _ _ _ (Lib.run_unsafeString_none w t it ty none)) hm (.str [])
 ·rename_i k m n;split at h
  ·rename_i sh sz es j hb hj;split at h
   ·rename_i hcond;obtain ⟨hme,hnm,hsty,rfl,hj1,hlim⟩:=hcond;cases hbs:k8 es with
    | none=>rw [hbs] at h;cases h
    | some ns=>
     rw [hbs] at h;cases h;cases he;obtain rfl:=uU hbs;obtain rfl:=hn.aJ;obtain ⟨info,hi⟩:=bG (hc.ty u' j hj);by_cases hm0:m=0
     ·exact FM hm hb hx hnm hm0 hme
     obtain ⟨b,cap,hge,rfl,hrow⟩:=hx.ss hm hb hme hm0;obtain ⟨loc,hge',hr⟩:=hm.sl k sh 1 _ hb;have hsr:=hrow;obtain ⟨cc,ty0,fz,hh,hcs,hcap,hf',hrd,hout⟩:=hrow;obtain ⟨rfl,hf⟩:=hf' _ hsty;have hk:k<bs.length:=ff (by rw [hb];simp);rw [abp] at hme hcap;have hsh:w.shape? b=some (u',cc.size):=by simp [World.shape?,hh]
     have hrun:=Lib.run_unsafeString_row (P:=P) w t it ty u' ht (by simp [Program.cellsOf,hi.info,hi.size,hj1]) b cc.size hsh ns (fun h0=>hm0 (by rw [hme,h0];rfl)) (by omega) (by unfold bX at hlim;omega) (fun j x hx=>by
      have hj:=ah hx;obtain ⟨v,hv,rv,_⟩:=hsr.vI hr.1 (i:=j) (e:=ak x) (by rw [List.getElem?_map,hx];rfl) 0 (ak x) rfl;obtain rfl:=rv.aJ;rw [addr_add];simpa using hv)
     obtain ⟨fz',hfz⟩:=DE w hh ns.length
     have hcell: ∀b2 o,(w.freeze ⟨b,0,none⟩ ns.length).cell? ⟨b2,o,none⟩=w.cell? ⟨b2,o,none⟩:=fun b2 o=>by
      by_cases e:b2=b
      ·subst e;rw [eJ hfz,eJ hh]
      ·exact bS (sv w _ e) o
     have hle:Le g w (g.eE k (g.e k) g.S) (w.freeze ⟨b,0,none⟩ ns.length):=⟨fun _ _ h=>h,fun b o _=>hcell b o,fun j=>by
      by_cases e:k=j
      ·subst e;rw [Gh.aZ];exact .same _
      ·rw [Gh.aX _ _ _ e];exact .same _⟩
     obtain ⟨m',l',f'⟩:=Mem.gQ (id:=k) (x:= .sl ⟨sh.out,none,none⟩ 1 (ns.map ak)) (ge:=g.e k) (S':=g.S) hm hk (fun _ _ h=>h) (fun b o _=>hcell b o) (.same _)
      (fun b2 hb2 hne=>sv w _ (fun e=>hne (by rw [hge,e];rfl))) (by rw [DG];exact aa0 _) (fun b2 h=> .inl h) (by simp) (fun _ _ h=>by cases h)
      (fun sh' sz' es' hes'=>by
       cases hes';refine ⟨some (b,cap),by rw [hge,abp,hme],hr.1,cc,u',fz',hfz,hcs,by rw [abp];exact hcap,fun t ht=>(by cases ht),fun i j e x v a1 a2 a3=>⟨(hrd i j e x v a1 a2 a3).1.mono hle,(hrd i j e x v a1 a2 a3).2⟩,hout.1,fun _ _ _ _ h=>(by cases h)⟩)
      (fun b2 o h=> .inl h) (fun b2 o hs hblk=>by
       obtain ⟨ty',sz',es',h3,h4⟩:=(hm.cR b2 o hs).2 k hblk;rw [hb] at h3;cases h3;exact ⟨_,_,_,rfl,h4⟩) (by unfold World.freeze;split <;> rfl) (by unfold World.freeze;split <;> rfl) (by unfold World.freeze;split <;> rfl)
     have hnm':(n:Int)=(ns.length:Int):=by rw [hnm,hme]
     rw [hnm'];refine ⟨_,_,_,_,aT P w _ _ _ (by simpa using hrun),.inl rfl,m',l',f',.str _⟩
   ·cases h
  ·cases h
 ·cases h
theorem yu {c:av} (hc:bP c P) (hm:Mem g bs w) {b:Builtin} {argTypes:Array TypeId} {type:TypeId} {consts:Array Bool} {xs:List AV} {vs:Array Value} {r:AV} {e:c9} {id:Nat} (hx:bt g w xs vs.toList)
  (h:eH c b argTypes.toList xs bs id=some (r,e)) {bs':List ad} (he:e.on bs id=some bs'):cT ((builtin b argTypes type consts vs).run P w) g w bs' r:=by
 obtain ⟨ts⟩:=argTypes;obtain ⟨vs⟩:=vs;simp only at hx h;unfold eH at h;split at h
 ·split at h
  ·rename_i t x;split at h
   ·rename_i i hi;cases hx with
    | cons hx ht=>cases ht;obtain ⟨rfl,v,hv,rv⟩:=Iz hc hm (ty:=type) hi hx h;cases he;exact .pure (v:=v) (by simp only [builtin];exact aT P w _ _ _ hv) hm rv
   ·cases h
  ·cases h
 ·split at h
  ·rename_i st xt s x;cases hx with
   | cons hs ht=>cases ht with
    | cons hx ht=>cases ht;simp only [builtin];exact Bk hc hm hs hx h he
  ·cases h
 ·split at h
  ·rename_i x rest;cases hx with
   | cons hx ht=>
    cases hmn:HQ x rest with
    | none=>rw [hmn] at h;cases h
    | some y=>rw [hmn] at h;cases h;cases he;obtain ⟨v,hv,rv⟩:=N4 (P:=P) ht hx hmn;exact .pure (v:=v) (by simp only [builtin,Builtin.min_];exact aT P w _ _ _ hv) hm rv
  ·cases h
 ·split at h
  ·rename_i x rest;cases hx with
   | cons hx ht=>
    cases hmn:HR x rest with
    | none=>rw [hmn] at h;cases h
    | some y=>rw [hmn] at h;cases h;cases he;obtain ⟨v,hv,rv⟩:=N5 (P:=P) ht hx hmn;exact .pure (v:=v) (by simp only [builtin,Builtin.max_];exact aT P w _ _ _ hv) hm rv
  ·cases h
 ·split at h
  ·cases hx with
   | cons hx ht=>cases ht;obtain ⟨rfl,v,hv,rv⟩:=FL (P:=P) hm (ts:=⟨ts⟩) (ty:=type) hx h;cases he;exact .pure (v:=v) (by simp only [builtin];exact aT P w _ _ _ hv) hm rv
  ·cases h
 ·split at h
  ·rename_i t it x n;split at h
   ·rename_i u' hu'
    have hu:P.underlying t=some (.pointer u'):=by
     unfold av.descOf at hu';cases ht:c.ti t with
     | none=>rw [ht] at hu';cases hu'
     | some i=>rw [ht] at hu';obtain ⟨info,hi⟩:=bG (hc.ty t i ht);simp only [aa1,Option.some.injEq] at hu';rw [<-hu'];exact hi.fq
    cases hx with
    | cons hx ht=>cases ht with
     | cons hn ht=>cases ht;simp only [builtin];exact FO hc hm hu hx hn h he
   ·cases h
  ·cases h
 ·split at h
  ·rename_i st xt d x;cases hx with
   | cons hd ht=>cases ht with
    | cons hx ht=>cases ht;simp only [builtin];exact FK hc hm hd hx h he
  ·cases h
 ·cases h
theorem bt.get {xs:List AV} {vs:List Value} (h:bt g w xs vs):xs.length=vs.length∧ ∀(i:Nat) (x:AV) (v:Value),xs[i]?=some x->vs[i]?=some v->Rd g w x v:=by
 induction h with
 | nil=>exact ⟨rfl,fun i x v h=>by simp at h⟩
 | cons h _ ih=>
  refine ⟨by simp [ih.1],fun i x v hx hv=> ?_⟩;cases i with
  | zero=>simp at hx hv;subst hx;subst hv;exact h
  | succ i=>simp at hx hv;exact ih.2 i x v hx hv
set_option maxHeartbeats 400000 in
theorem IF {c:av} (hc:bP c P) (hm:Mem g bs w) {t:Env} {a:Act} (ht:fW g w t a) {o:Oper} {r:AV} {e:c9} {id:Nat} (h:fR c o.op t bs id=some (r,e)) {bs':List ad} (he:e.on bs id=some bs'):
  cT ((execOp a.eval o).run P w) g w bs' r:=by
 obtain ⟨dst,op,type,pos,after,guard⟩:=o;simp only at h;cases op with
 | move x=>cases h;cases he;exact .pure (v:=a.eval x) rfl hm (ht.ev x)
 | assign x=>cases h;cases he;exact .pure (v:=a.eval x) rfl hm (ht.ev x)
 | pick x y z=>obtain ⟨rfl,h'⟩:=FD (P:=P) hm (ht.ev x) (ht.ev y) (ht.ev z) h;cases he;exact h'
 | alloc el=>exact Du hc hm h he
 | box el x=>exact IC hm (ht.ev x) h he
 | build ty parts=>obtain ⟨rfl,h'⟩:=Dx hc hm (qs:=parts.map fun p=>(p.1,a.eval p.2)) (by simpa using tG ht parts.toList) h;cases he;exact h'
 | buildSlice ty len parts=>simp only [fR] at h;have key:=sb (P:=P) hc hm (qs:=parts.map fun (i,x)=>(i,a.eval x)) (by rw [Array.toList_map];exact tG ht parts.toList) h he;simp only [execOp];exact key
 | load ty x=>obtain ⟨rfl,h'⟩:=FG hc hm (ht.ev x) h;cases he;exact h'
 | store ty x y=>simp only [fR] at h;exact DC hc hm (ht.ev x) (ht.ev y) h he
 | makeInterface ty x=>exact Dn hc hm (ht.ev x) h he
 | nilCheck x=>obtain ⟨rfl,h'⟩:=xA (P:=P) (o:=⟨dst,.nilCheck x,type,pos,after,guard⟩) (a:=a) hm rfl (ht.ev x) h;cases he;exact h'
 | binOp op ty x y ty'=>
  simp only [fR] at h;cases hb:HP c ty op y (ev t x) (ev t y) with
  | none=>rw [hb] at h;cases h
  | some z=>
   rw [hb] at h;cases h;cases he;unfold HP at hb;split at hb
   ·rename_i hq;refine Iy hc hm (ht.ev x) hb x y hq ?_;unfold HO at hq;split at hq
    ·rfl
    ·cases hq
   ·exact Ix hc hm (ht.ev x) (ht.ev y) hb x y
 | unOp op ty x=>
  simp only [fR] at h;cases hb:M7 op (ev t x) with
  | none=>rw [hb] at h;cases h
  | some z=>rw [hb] at h;cases h;cases he;exact KY hm (ht.ev x) hb
 | convert src dst x=>simp only [fR] at h;exact yt hc hm (ht.ev x) h he
 | makeFunc fn first caps=>
  cases fn with
  | func f=>cases h;cases he;obtain ⟨h1,h2⟩:=(bt.zs ht first.toList).get;obtain ⟨h3,h4⟩:=(bt.zs ht caps.toList).get;exact .pure (v:= .func (.func f) (first.map a.eval) (caps.map a.eval)) rfl hm (.fn f _ _ _ _ (by simp [h1]) (by simp [h3]) (fun i c v hc hv=>h2 i c v hc (by simpa using hv)) (fun i c v hc hv=>h4 i c v hc (by simpa using hv)))
  | _=>cases h
 | makeSlice ty l m=>simp only [fR] at h;exact vr hc hm (ht.ev l) (ht.ev m) h he
 | slice ty x lo hi mx=>
  simp only [fR] at h;split at h
  ·rename_i i hi;cases mx with
   | none=>exact Bb hc hm hi (ht.ev x) (vJ ht lo) (vJ ht _) h he
   | some m=>obtain ⟨rfl,h'⟩:=Bc (P:=P) (vm:=some (a.eval m)) hc hm hi (ht.ev x) (vJ ht lo) (vJ ht _) (ht.ev m) h;cases he;exact h'
  ·cases h
 | fieldAddr ty x f=>obtain ⟨rfl,h'⟩:=vo hc hm (ht.ev x) h;cases he;exact h'
 | field ty x f=>obtain ⟨rfl,h'⟩:=Dq hc hm (ht.ev x) h;cases he;exact h'
 | indexAddr ty x y=>obtain ⟨rfl,h'⟩:=vp hc hm (ht.ev x) (ht.ev y) h;cases he;exact h'
 | index ty x y=>obtain ⟨rfl,h'⟩:=Dp hc hm (ht.ev x) (ht.ev y) h;cases he;exact h'
 | extract x i=>obtain ⟨rfl,h'⟩:=yq (P:=P) hm (ht.ev x) h;cases he;exact h'
 | makeMap ty r=>
  simp only [fR] at h
  exact ym hc hm (ov:=r.map a.eval) (fun x hx=>by
   cases r with
   | none=>cases hx
   | some y=>cases hx;exact ⟨_,rfl,ht.ev y⟩) (fun hx=>by
   cases r with
   | none=>rfl
   | some y=>cases hx) h he
 | range ty x=>exact Dg hc hm (ht.ev x) h he
 | next x str=>exact Fv hm (ht.ev x) h he
 | lookup ty x k ok=>obtain ⟨rfl,h'⟩:=A6 hc hm (ht.ev x) (ht.ev k) h;cases he;exact h'
 | mapUpdate ty m k x=>exact nu hc hm (ht.ev m) (ht.ev k) (ht.ev x) h he
 | insert ty m k x=>exact nu hc hm (ht.ev m) (ht.ev k) (ht.ev x) h he
 | mapEntry ty m k=>exact xw hc hm (ht.ev m) (ht.ev k) h he
 | entryStore ty m s x=>exact tC (P:=P) hm (ht.ev m) (ht.ev s) (ht.ev x) h he
 | entry x=>obtain ⟨rfl,h'⟩:=Df (P:=P) hm (ht.ev x) h;cases he;exact h'
 | call k=>
  obtain ⟨callee,args,argTypes⟩:=k;simp only [fR] at h;split at h
  ·simp only [execOp,resolve,invoke,Sem.run_bind,Sem.run_pure,Result.andThen_ok];exact yu hc hm (vs:=args.map a.eval) (by simpa using bt.zs ht args.toList) h he
  ·cases h
 | _=>cases h
end
end Go.Am
