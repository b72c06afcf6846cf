/- Each operation of the abstract machine is sound, eighth part: -/
import Derived.Test.YtnlndhjfmghajaaGreatDoorAmOps7
import Derived.Test.YtnlndhjfmghajaaGreatDoorAmMap
import Derived.Lib.UnsafeStr
set_option linter.all false
namespace Go.Am
variable [Kn]
section
variable {P:Program} {g:Gh} {bs:List Box} {w:World}
theorem grownCap_le (w:World) (need old:Nat) (e:TypeId):need≤grownCap w need old e:=by
 show need≤(Question.appendCap need old e).cut _;show need≤need+_;omega
theorem grown_size {z:Value} {n m cap size:Nat} {olds news:List Value} (hz:z.cells.size=size) (ho:olds.length=n*size) (hn:news.length=m*size) (hcap:n+m≤cap):
  (olds.toArray++news.toArray++Builtin.zeroCells z.cells (cap-(n+m))).size=cap*size:=by
 simp only [Array.size_append,List.size_toArray,Builtin.zeroCells,Array.size_map,Array.size_range,ho,hn,hz]
 rw [←Nat.add_mul,←Nat.add_mul];congr 1;omega
theorem appendTo_sound {c:Cfg} (hc:CfgTy c P) (hm:Mem g bs w) {st xt ty el:TypeId} {i:TI} {xd:TypeDesc} (hst:P.underlying st=some (.slice el)) (hxt:P.underlying xt=some xd) (hxd:Appended xd) (hel:c.ti el=some i)
  {s r:AV} {u x:Value} {xs:List AV} {news:List Value} {e:Eff} {id:Nat} (hs:Rd g w s u) (hsrc:Src P g w i.size xs x news) (h:appendTo i el bs s xs id=some (r,e)) {bs':List Box} (he:e.on bs id=some bs'):
  OpOk ((do pure (Next.value (←Builtin.append_ #[st,xt] ty #[u,x])):Sem Next).run P w) g w bs' r:=by
 obtain ⟨info,hi⟩:=ty_is (hc.ty el i hel)
 have hsz:=hi.size
 have zer:zeroOk i=true→ ∃z,info.zero=some z∧z.cells.size=i.size:=fun hzo=>by
  unfold zeroOk at hzo
  split at hzo
  ·rename_i z hz
   have hzz:=hi.zero
   rw [hz] at hzz
   cases hv:info.zero with
   | none=>rw [hv] at hzz;cases hzz
   | some v=>
    rw [hv] at hzz
    simp only [Option.map_some,Option.some.injEq] at hzz
    subst hzz
    refine ⟨v,rfl,?_⟩
    rw [(val_cells (g:=g) (w:=w) v).1]
    simpa using hzo
  ·cases hzo
 have lims: ∀{n:Nat},n*(i.bytes+1)≤sliceLim→n≤9223372036854775807∧n*info.bytes≤140737488355328:=fun {n} hl=>by
  have h1:n≤n*(i.bytes+1):=Nat.le_mul_of_pos_right n (by omega)
  have h2:n*i.bytes≤n*(i.bytes+1):=Nat.mul_le_mul_left n (by omega)
  rw [hi.bytes]
  unfold sliceLim at hl
  omega
 have hsrc':Src P g w info.size xs x news:=by rw [hsz];exact hsrc
 /- an empty slice without capacity -/
 have empty: ∀a:Option Addr,u= .slice a 0 0→xs≠ []→xs.length*(i.bytes+1)≤sliceLim→zeroOk i=true→r= .osl id xs.length→e= .new (.sl ⟨false,some el,none⟩ i.size xs)→
   OpOk ((do pure (Next.value (←Builtin.append_ #[st,xt] ty #[u,x])):Sem Next).run P w) g w bs' r:=by
  intro a hu hx hlim hzo hr hee
  subst hu;subst hr;subst hee
  ·obtain ⟨z,hz,hzs⟩:=zer hzo
   have hpos:=List.length_pos_iff.2 hx
   obtain ⟨hl1,hl2⟩:=lims hlim
   have hrun:=append_grow (P:=P) (ty:=ty) (base:=a) (sLen:=0) (sCap:=0) (olds:= []) hst hxt hxd hi.info hz hsrc' (by omega) (by cases a <;> simp [Builtin.firstCells,loadCells,loadCellsFrom]) (by omega) (growslice_fits (by omega) (by simpa using hl2))
   rw [Nat.zero_add] at hrun
   have hge:=grownCap_le w xs.length 0 el
   refine new_sl hm he (wrap_run P w _ _ _ hrun) (fun b hb=>alloc_old w.drew _ hb) (by simp) (alloc_new w.drew _) rfl rfl rfl (fun o _=>by simp) ?_ hge (by omega) hsrc.ok ?_
   ·have:=grown_size (olds:= []) (n:=0) (news:=news) hzs (by simp) hsrc.sizes (cap:=grownCap w xs.length 0 el) (by omega)
    simpa using this
   ·refine row_append (es:= []) (olds:= []) (fun i j e x v he=>by simp at he) (by simp) (fun i e he=>by simp at he) hsrc.row hsrc.sizes hsrc.ok (fun o ho=> ?_)
    simp only [List.length_nil,Nat.zero_add] at ho
    rw [Array.getElem?_append_left (by simp;omega)]
    simp
 unfold appendTo at h
 split at h
 ·obtain ⟨a,cap,hu,hnl,hnil⟩:=hs.lst_inv
  have ha:a=none:=by have:=hnl _ rfl;simpa using this
  obtain ⟨_,hc0⟩:=hnil ha
  split at h
  ·cases h;cases he
   subst ha;subst hc0;subst hu
   have hn0:news= []:=List.eq_nil_of_length_eq_zero (by rw [hsrc.sizes];simp)
   subst hn0
   have hrun:=append_room (P:=P) (ty:=ty) (base:=none) (sLen:=0) (sCap:=0) (w':=w) hst hxt hxd hi.info hsrc' (by simp) (fun a' _=>by simp [storeCells]) (fun _=>rfl)
   exact .pure (wrap_run P w _ _ _ hrun) hm hs
  ·split at h
   ·rename_i hcond
    cases h
    exact empty a (by rw [hu,hc0];rfl) (by assumption) hcond.1 hcond.2 rfl rfl
   ·cases h
 ·split at h
  ·cases h;cases he
   cases hs with
   | cap0 _ a hnl=>
    have hn0:news= []:=List.eq_nil_of_length_eq_zero (by rw [hsrc.sizes];simp)
    subst hn0
    have hrun:=append_room (P:=P) (ty:=ty) (base:=a) (sLen:=0) (sCap:=0) (w':=w) hst hxt hxd hi.info hsrc' (by simp) (fun a' _=>by simp [storeCells]) (fun _=>rfl)
    exact .pure (wrap_run P w _ _ _ hrun) hm (.cap0 _ a hnl)
  ·split at h
   ·rename_i hcond
    cases h
    cases hs with
    | cap0 _ a=>exact empty a rfl (by assumption) hcond.1 hcond.2 rfl rfl
   ·cases h
 ·rename_i k n
  split at h
  ·rename_i sh sz es hb
   split at h
   ·rename_i hcond
    obtain ⟨hn,rfl,hsty,hlim,hzo⟩:=hcond
    cases h;cases he
    obtain ⟨z,hz,hzs⟩:=zer hzo
    obtain ⟨hl1,hl2⟩:=lims hlim
    obtain ⟨a,cap,rfl,hels,loc,hge,hr,hl⟩:=hs.osl_at hm hb hn
    subst hn
    have hla:(es++xs).length=es.length+xs.length:=List.length_append
    by_cases hroom:es.length+xs.length≤cap
    ·rcases hl with ⟨b,rfl,rfl⟩ | ⟨rfl,rfl,rfl,rfl⟩
     ·obtain ⟨cc,ty0,fz,hh,hcs,hcap,hf',hrd,_⟩:=hr.2
      obtain ⟨rfl,hf⟩:=hf' _ hsty
      have hbase:es.length*i.size+news.length≤cc.size:=by
       rw [hsrc.sizes,hcs,←Nat.add_mul];exact Nat.mul_le_mul_right _ hroom
      have hst':=run_storeRow P b (0+es.length*i.size) el fz news 0 cc w hh (fun o ho=>hf o (Nat.le_trans (by split <;> omega) ho)) (by omega) hsrc.one
      simp only [Nat.add_zero,Nat.zero_add] at hst'
      have hrun:=append_room (P:=P) (ty:=ty) (base:=some ⟨b,0,none⟩) (sLen:=es.length) (sCap:=cap) hst hxt hxd hi.info hsrc' hroom (fun a' ha'=>by cases ha';rw [addr_add,hsz,Nat.zero_add];exact hst') (fun h=>by cases h)
      rw [←hla] at hrun⊢
      refine grow_sl hm hb hge (wrap_run P w _ _ _ hrun) (.inl ⟨cap,rfl⟩) (fun _=>rfl) (fun b2 _ hne=>setRow_other w b b2 _ hne) (by simp) (setRow_heap w b cc _ el fz hh) (fun o ho _=> ?_) rfl rfl rfl hsty (fun o hno ho=>hf o (Nat.le_trans (by split <;> (try rw [hla,Nat.add_mul]) <;> omega) hno) (by rwa [row_size _ _ _ hbase] at ho)) (by rw [row_size _ _ _ hbase,hcs]) (by omega) (by omega) (elOk_append hr.1 hsrc.ok) ?_
      ·rw [cell_row (setRow_heap w b cc _ el fz hh),cell_row hh,row_get _ _ _ _ hbase,if_neg (by omega)]
      ·refine row_append (olds:=(cc.toList.take (es.length*i.size))) (fun i2 j e x v he hx hv=> ?_) (by simp;omega) hr.1 hsrc.row hsrc.sizes hsrc.ok (fun o ho=> ?_)
       ·rw [List.getElem?_toArray,List.getElem?_take] at hv
        split at hv
        ·exact hrd i2 j e x v he hx (by simpa using hv)
        ·cases hv
       ·have hlen:(cc.toList.take (es.length*i.size)).length=es.length*i.size:=by simp;omega
        rw [row_get _ _ _ _ hbase]
        rw [hlen] at ho
        by_cases ho2:o<es.length*i.size
        ·rw [if_neg (by omega),List.getElem?_append_left (by omega),List.getElem?_take,if_pos ho2];simp
        ·rw [if_pos (by omega),List.getElem?_append_right (by omega),hlen]
     ·have hx:xs= []:=List.eq_nil_of_length_eq_zero (by simpa using hroom)
      subst hx
      have hn0:news= []:=List.eq_nil_of_length_eq_zero (by rw [hsrc.sizes];simp)
      subst hn0
      have hrun:=append_room (P:=P) (ty:=ty) (base:=none) (sLen:=0) (sCap:=0) (w':=w) hst hxt hxd hi.info hsrc' (by simp) (fun a' _=>by simp [storeCells]) (fun _=>rfl)
      obtain ⟨g',m',l',f',e'⟩:=unlink_box hm hb
      exact ⟨_,_,_,g',wrap_run P w _ _ _ hrun,.inl rfl,m',l',f',.osl k 0 0 i.size none _ rfl (by rw [e'];exact hge) (Nat.le_refl _) (fun _=> .inr ⟨rfl,rfl,rfl⟩)⟩
    ·have hxne:xs≠ []:=by
      intro h0;subst h0
      have:=hels.cap
      simp at hroom;omega
     obtain ⟨olds,hos⟩:=src_slice (P:=P) (size:=i.size) hels (.inl rfl)
     have hrun:=append_grow (P:=P) (ty:=ty) (base:=a) (sLen:=es.length) (sCap:=cap) (olds:=olds) hst hxt hxd hi.info hz hsrc' (by omega) (by rw [hsz];exact hos.first w.drew (fun _=>rfl)) hl1 (growslice_fits (by omega) hl2)
     rw [←hla] at hrun⊢
     have hgc:=grownCap_le w (es++xs).length cap el
     refine grow_sl hm hb hge (wrap_run P w _ _ _ hrun) (.inr (Nat.le_refl _)) (fun h0=>absurd h0 hxne) (fun b2 hb2 _=>alloc_old w.drew _ hb2) (by simp) (alloc_new w.drew _) (fun o _ h0=>absurd h0 (Nat.lt_irrefl _)) rfl rfl rfl hsty (fun o _ _=>by simp) ?_ hgc (by have:=List.length_pos_iff.2 hxne;omega) (elOk_append hr.1 hsrc.ok) ?_
     ·rw [hla];exact grown_size hzs hos.sizes hsrc.sizes (by rw [hla] at hgc;exact hgc)
     ·refine row_append hos.row hos.sizes hr.1 hsrc.row hsrc.sizes hsrc.ok (fun o ho=> ?_)
      rw [Array.getElem?_append_left (by simp;omega)]
      simp [List.getElem?_append]
   ·cases h
  ·cases h
 ·rename_i k n lo hi2
  split at h
  ·rename_i sh sz es hb
   split at h
   ·rename_i hcond
    obtain ⟨hn,rfl,hhn,hxne,rfl,hout,hsty,hlim,hzo⟩:=hcond
    cases h
    obtain ⟨z,hz,hzs⟩:=zer hzo
    obtain ⟨hl1,hl2⟩:=lims hlim
    obtain ⟨b,cap,a,rfl,ha,hge,hr,hel⟩:=hs.osv_at hm hb hn
    subst hn
    obtain ⟨cc,ty0,fz,hh,hcs,hcap,hf',hrd,_⟩:=hr.2
    obtain ⟨rfl,hf⟩:=hf' _ hsty
    rw [hout] at hf
    have hfree:Free cc fz:=fun o ho=>hf o (Nat.zero_le _) ho
    have ha':a=⟨b,0,none⟩:=by
     rcases ha with h | h
     ·rw [h,Nat.zero_mul]
     ·omega
    subst ha'
    have hlt:(es.take hi2).length=hi2:=by simp;omega
    have hokT:ElOk i.size (es.take hi2):=fun i2 e he=>by
     rw [List.getElem?_take] at he
     split at he
     ·exact hr.1 i2 e he
     ·cases he
    have hla:(es.take hi2++xs).length=hi2+xs.length:=by rw [List.length_append,hlt]
    have hrdT:RowOf g w i.size (es.take hi2) (cc.toList.take (hi2*i.size)).toArray:=fun i2 j e x v he hx hv=>by
     rw [List.getElem?_take] at he
     split at he
     ·rw [List.getElem?_toArray,List.getElem?_take] at hv
      split at hv
      ·exact hrd i2 j e x v he hx (by simpa using hv)
      ·cases hv
     ·cases he
    have hcs':hi2*i.size≤cc.size:=by rw [hcs];exact Nat.mul_le_mul_right _ (by omega)
    have htl:(cc.toList.take (hi2*i.size)).length=hi2*i.size:=by simp;omega
    rw [Nat.sub_zero,Nat.sub_zero]
    by_cases hroom:hi2+xs.length≤cap
    ·have hbase:hi2*i.size+news.length≤cc.size:=by
      rw [hsrc.sizes,hcs,←Nat.add_mul];exact Nat.mul_le_mul_right _ hroom
     have hst':=run_storeRow P b (0+hi2*i.size) el fz news 0 cc w hh (fun o _ ho=>hfree o ho) (by omega) hsrc.one
     simp only [Nat.add_zero,Nat.zero_add] at hst'
     have hrun:=append_room (P:=P) (ty:=ty) (base:=some ⟨b,0,none⟩) (sLen:=hi2) (sCap:=cap) hst hxt hxd hi.info hsrc' hroom (fun a' ha'=>by cases ha';rw [addr_add,hsz,Nat.zero_add];exact hst') (fun h=>by cases h)
     rw [←hla] at hrun⊢
     refine move_sl hm hb hge he (wrap_run P w _ _ _ hrun) (.inl rfl) (fun b2 _ hne=>setRow_other w b b2 _ hne) (by simp) (setRow_heap w b cc _ el fz hh) rfl rfl rfl hsty hout (fun o ho=>hfree o (by rwa [row_size _ _ _ hbase] at ho)) (by rw [row_size _ _ _ hbase,hcs]) (by omega) (by omega) (elOk_append hokT hsrc.ok) ?_
     refine row_append (olds:=(cc.toList.take (hi2*i.size))) hrdT (by rw [htl,hlt]) hokT hsrc.row hsrc.sizes hsrc.ok (fun o ho=> ?_)
     rw [row_get _ _ _ _ hbase]
     rw [htl] at ho
     by_cases ho2:o<hi2*i.size
     ·rw [if_neg (by omega),List.getElem?_append_left (by omega),List.getElem?_take,if_pos ho2];simp
     ·rw [if_pos (by omega),List.getElem?_append_right (by omega),htl]
    ·have hpart:=hel.part (lo:=0) (hi:=hi2) (a:=⟨b,0,none⟩) (.inl (by rw [Nat.zero_mul])) (Nat.zero_le _) hhn
     rw [List.drop_zero,Nat.sub_zero,Nat.sub_zero] at hpart
     obtain ⟨olds,hos⟩:=src_slice (P:=P) (size:=i.size) hpart.2 (.inl rfl)
     rw [hlt] at hos
     have hrun:=append_grow (P:=P) (ty:=ty) (base:=some ⟨b,0,none⟩) (sLen:=hi2) (sCap:=cap) (olds:=olds) hst hxt hxd hi.info hz hsrc' (by omega) (by rw [hsz];have h9:=hos.first w.drew (fun _=>rfl);rw [hlt] at h9;exact h9) hl1 (growslice_fits (by omega) hl2)
     rw [←hla] at hrun⊢
     have hgc:=grownCap_le w (es.take hi2++xs).length cap el
     refine move_sl hm hb hge he (wrap_run P w _ _ _ hrun) (.inr (Nat.le_refl _)) (fun b2 hb2 _=>alloc_old w.drew _ hb2) (by simp) (alloc_new w.drew _) rfl rfl rfl hsty hout (fun o _=>by simp) ?_ hgc (by have:=List.length_pos_iff.2 hxne;omega) (elOk_append hokT hsrc.ok) ?_
     ·rw [hla];exact grown_size hzs (by rw [hos.sizes,hlt]) hsrc.sizes (by rw [hla] at hgc;exact hgc)
     ·refine row_append hos.row hos.sizes hokT hsrc.row hsrc.sizes hsrc.ok (fun o ho=> ?_)
      rw [Array.getElem?_append_left (by simp;omega)]
      simp [List.getElem?_append]
   ·cases h
  ·cases h
 ·cases h
theorem append_sound {c:Cfg} (hc:CfgTy c P) (hm:Mem g bs w) {st xt ty:TypeId} {s x r:AV} {u v:Value} {e:Eff} {id:Nat} (hs:Rd g w s u) (hx:Rd g w x v) (h:appendA c bs st xt s x id=some (r,e)) {bs':List Box} (he:e.on bs id=some bs'):
  OpOk ((do pure (Next.value (←Builtin.append_ #[st,xt] ty #[u,v])):Sem Next).run P w) g w bs' r:=by
 unfold appendA at h
 split at h
 ·rename_i i j hi hj
  obtain ⟨iinfo,hii⟩:=ty_is (hc.ty st i hi)
  obtain ⟨jinfo,hjj⟩:=ty_is (hc.ty xt j hj)
  split at h
  ·rename_i el hdesc
   split at h
   ·rename_i k hk
    split at h
    ·rename_i e2 hjd
     split at h
     ·rename_i sz xs hel
      split at h
      ·rename_i hsz
       obtain ⟨a,cap,rfl,hels⟩:=elems_at hm hx hel
       obtain ⟨news,hsrc⟩:=src_slice (P:=P) (size:=k.size) hels hsz
       exact appendTo_sound hc hm (hdesc▸hii.und) (hjd▸hjj.und) (.inl ⟨_,rfl⟩) hk hs hsrc h he
      ·cases h
     ·cases h
    ·rename_i hjd
     split at h
     ·rename_i l
      split at h
      ·rename_i hk1
       obtain rfl:=hx.str_inv
       obtain ⟨news,hsrc⟩:=src_string (P:=P) (g:=g) (w:=w) l
       exact appendTo_sound hc hm (hdesc▸hii.und) (hjd▸hjj.und) (.inr rfl) hk hs (by rw [hk1];exact hsrc) h he
      ·cases h
     ·cases h
    ·cases h
   ·cases h
  ·cases h
 ·cases h
theorem ElemsAt.take {sz:Nat} {es:List AV} {a:Option Addr} {cap:Nat} (h:ElemsAt g w sz es a cap) (m:Nat):ElemsAt g w sz (es.take m) a cap where
 at_:=fun hne=>by
  obtain ⟨b,off,ha,hc⟩:=h.at_ (fun h0=>hne (by rw [h0];simp))
  refine ⟨b,off,ha,fun i e he=>hc i e ?_⟩
  rw [List.getElem?_take] at he
  split at he
  ·exact he
  ·cases he
 ok:=fun i e he=>by
  rw [List.getElem?_take] at he
  split at he
  ·exact h.ok i e he
  ·cases he
 nil:=fun ha=>⟨by rw [(h.nil ha).1];simp,(h.nil ha).2⟩
 cap:=by have:=h.cap;rw [List.length_take];omega
theorem copy_row (hm:Mem g bs w) {k n lo hi:Nat} {sh:Hd} {sz:Nat} {es:List AV} {b cap:Nat} (hb:Box.at bs k= .sl sh sz es) (hge:g.e k= .sl n sz (some (b,cap))) (hn:n=es.length) (hr:SlRel g w sh sz es (some (b,cap)))
  (hhi:hi≤n) (hout:sh.out=false) {el:TypeId} (hty:sh.ty=some el) {ys:List AV} {x:Value} {news:List Value} (hs:Src P g w sz ys x news) (hlh:lo+ys.length≤hi):
  ∃w' g',(storeCells ⟨b,lo*sz,none⟩ news 0).run P w= .ok () w'∧Mem g' (bs.set k (.sl ⟨sh.out,sh.ty,none⟩ sz (splice es lo ys))) w'∧Le g w g' w'∧Fr g w g' w':=by
 obtain ⟨hok,cc,ty,fz,hh,hcs,hcap,hf',hrd,_⟩:=hr
 obtain ⟨rfl,hf⟩:=hf' el hty
 rw [hout] at hf
 have hk:k<bs.length:=at_lt (by rw [hb];simp)
 have hsp:lo+ys.length≤es.length:=by omega
 have hjs:(lo+ys.length)*sz≤cap*sz:=Nat.mul_le_mul_right _ (by omega)
 rw [Nat.add_mul] at hjs
 have hsz:=hs.sizes
 have hin:lo*sz+news.length≤cc.size:=by omega
 have hrun:=run_storeRow P b (lo*sz) el fz news 0 cc w hh (fun o _ ho=>hf o (Nat.zero_le _) ho) (by omega) hs.one
 simp only [Nat.add_zero] at hrun
 have hS: ∀b2 o,g.S b2 o→b2≠b:=fun b2 o hs e=>by
  obtain ⟨_,sz',es',h1,_⟩:=(hm.stab b2 o hs).2 k (by rw [hge,e];rfl)
  rw [hb] at h1;cases h1;cases hout
 have hcell: ∀b2 o,g.S b2 o→(w.setRow b (cc.toList.take (lo*sz)++news++cc.toList.drop (lo*sz+news.length)).toArray).cell? ⟨b2,o,none⟩=w.cell? ⟨b2,o,none⟩:=fun b2 o hs=>cell_setRow_other _ _ _ _ (hS b2 o hs)
 have hle:Le g w (g.put2 k (.sl n sz (some (b,cap))) g.S) (w.setRow b (cc.toList.take (lo*sz)++news++cc.toList.drop (lo*sz+news.length)).toArray):=⟨fun _ _ h=>h,hcell,fun l=>by
  by_cases e:k=l
  ·subst e;rw [Gh.put2_same,hge];exact .same _
  ·rw [Gh.put2_other _ _ _ e];exact .same _⟩
 have hok': ∀(i2:Nat) (e2:AV),(splice es lo ys)[i2]?=some e2→e2.plain=true∧e2.cells.length=sz:=fun i2 e2 he2=>by
  rw [splice_get _ _ _ _ hsp] at he2
  split at he2
  ·exact hs.ok _ _ he2
  ·exact hok i2 e2 he2
 obtain ⟨m',l',f'⟩:=Mem.upd (id:=k) (x:= .sl ⟨sh.out,sh.ty,none⟩ sz (splice es lo ys)) (ge:= .sl n sz (some (b,cap))) (S':=g.S) hm hk (fun _ _ h=>h) hcell (by rw [hge];exact .same _)
  (fun b2 hb2 hne=>setRow_other w b b2 _ (fun e=>hne (by rw [hge,e];rfl))) (by simp) (fun b2 h=> .inl (by rw [hge];exact h)) (by simp) (fun _ _ h=>by cases h)
  (fun sh' sz' es' hes'=>by
   cases hes'
   refine ⟨some (b,cap),by rw [splice_length _ _ _ hsp,hn],hok',_,el,fz,setRow_heap w b cc _ _ fz hh,by rw [row_size _ _ _ hin,hcs],by rw [splice_length _ _ _ hsp];exact hcap,fun t ht=>⟨by have ht:sh.ty=some t:=ht;rw [hty] at ht;cases ht;rfl,fun o _ ho=>hf o (Nat.zero_le _) (by rwa [row_size _ _ _ hin] at ho)⟩,fun i2 j2 e2 x2 q he2 hx2 hq=> ?_,fun h=>(by have h:sh.out=true:=h;rw [hout] at h;cases h),fun _ _ _ _ h=>(by cases h)⟩
   rw [row_get _ _ _ _ hin] at hq
   rw [splice_get _ _ _ _ hsp] at he2
   have hl2:=getElem?_lt hx2
   by_cases h3:lo≤i2∧i2<lo+ys.length
   ·rw [if_pos h3] at he2
    obtain ⟨d,rfl⟩:=Nat.exists_eq_add_of_le h3.1
    rw [Nat.add_sub_cancel_left] at he2
    rw [(hs.ok _ _ he2).2] at hl2
    have hd:(d+1)*sz≤ys.length*sz:=Nat.mul_le_mul_right _ (by omega)
    rw [Nat.add_mul,Nat.one_mul] at hd
    rw [Nat.add_mul] at hq
    rw [if_pos (by omega),show lo*sz+d*sz+j2-lo*sz=d*sz+j2 by omega] at hq
    have:=hs.row d j2 e2 x2 q he2 hx2 (by rw [List.getElem?_toArray];exact hq)
    exact ⟨this.1.mono hle,this.2⟩
   ·rw [if_neg h3] at he2
    rw [(hok i2 e2 he2).2] at hl2
    rw [if_neg (by
     rintro ⟨a1,a2⟩
     rcases Nat.lt_or_ge i2 lo with hlt | hge'
     ·have:(i2+1)*sz≤lo*sz:=Nat.mul_le_mul_right _ hlt
      rw [Nat.add_mul] at this
      omega
     ·have:(lo+ys.length)*sz≤i2*sz:=Nat.mul_le_mul_right _ (by omega)
      rw [Nat.add_mul] at this
      omega)] at hq
    have:=hrd i2 j2 e2 x2 q he2 hx2 hq
    exact ⟨this.1.mono hle,this.2⟩)
  (fun b2 o h=> .inl h) (fun b2 o hs hblk=>by simp only [GE.blk,Option.map_some,Option.some.injEq] at hblk;exact absurd hblk.symm (hS b2 o hs)) rfl rfl rfl
 exact ⟨_,_,hrun,m',l',f'⟩
theorem part_at (hm:Mem g bs w) {d:AV} {u:Value} (hd:Rd g w d u) {k n lo hi:Nat} (hp:partOf d=some (k,n,lo,hi)) {sh:Hd} {sz:Nat} {es:List AV} (hb:Box.at bs k= .sl sh sz es) (hn:n=es.length) (hhi:hi≤n):
  ∃a cap,u= .slice a (hi-lo) cap∧(lo<hi→ ∃b cap',a=some ⟨b,lo*sz,none⟩∧g.e k= .sl n sz (some (b,cap'))∧SlRel g w sh sz es (some (b,cap'))):=by
 unfold partOf at hp
 split at hp
 ·cases hp
  obtain ⟨a,cap,rfl,_,loc,hge,hr,hl⟩:=hd.osl_at hm hb hn
  refine ⟨a,cap,by rw [hn];rfl,fun hlt=> ?_⟩
  rcases hl with ⟨b,rfl,rfl⟩ | ⟨_,h0,_⟩
  ·exact ⟨b,cap,by rw [Nat.zero_mul],hge,hr⟩
  ·rw [h0] at hn;simp at hn;omega
 ·cases hp
  obtain ⟨b,cap,a,rfl,ha,hge,hr,_⟩:=hd.osv_at hm hb hn
  refine ⟨some a,cap-lo,rfl,fun hlt=> ?_⟩
  rcases ha with rfl | ha
  ·exact ⟨b,cap,rfl,hge,hr⟩
  ·obtain ⟨_,_,_,_,_,_,hcap,_⟩:=hr
   omega
 ·cases hp
theorem first_len (size n:Nat) (a:Option Addr) (l1 l2 c1 c2:Nat):Builtin.firstCells size n (.slice a l1 c1)=Builtin.firstCells size n (.slice a l2 c2):=by
 cases a <;> rfl
theorem copy_sound {c:Cfg} (hc:CfgTy c P) (hm:Mem g bs w) {st xt ty:TypeId} {d x r:AV} {u v:Value} {e:Eff} {id:Nat} (hd:Rd g w d u) (hx:Rd g w x v) (h:copyA c bs st d x=some (r,e)) {bs':List Box} (he:e.on bs id=some bs'):
  OpOk ((do pure (Next.value (←Builtin.copy_ #[st,xt] ty #[u,v])):Sem Next).run P w) g w bs' r:=by
 unfold copyA at h
 split at h
 ·rename_i i hi
  obtain ⟨iinfo,hii⟩:=ty_is (hc.ty st i hi)
  split at h
  ·rename_i el hdesc
   have hund:=hdesc▸hii.und
   split at h
   ·rename_i k hk
    obtain ⟨info,hinf⟩:=ty_is (hc.ty el k hk)
    have hksz:=hinf.size
    split at h
    ·rename_i sz xs hel
     split at h
     ·rename_i hsz
      obtain ⟨a,cap,rfl,hels⟩:=elems_at hm hx hel
      have none0: ∀(a2:Option Addr) (cap2:Nat),(Builtin.copy_ #[st,xt] ty #[.slice a2 0 cap2,.slice a xs.length cap]).run P w= .ok (.int .i64 0) w:=fun a2 cap2=>by
       have h0:Nat.min xs.length 0=0:=Nat.min_eq_right (Nat.zero_le _)
       cases a2 <;> cases a <;> simp [Builtin.copy_,run_underlying hund,Builtin.lenOf,sizeOf,typeInfo,hinf.info,h0,Builtin.firstCells,loadCells,loadCellsFrom,storeCells,goInt]
      unfold copyTo at h
      split at h
      ·rename_i kb n lo hi2 hpart
       split at h
       ·rename_i sh sz2 es hb
        split at h
        ·rename_i hcond
         obtain ⟨hn,hlh,hhi,rfl,hout,hsty⟩:=hcond
         obtain ⟨a2,cap2,rfl,hat⟩:=part_at hm hd hpart hb hn hhi
         split at h
         ·rename_i heq
          cases h;cases he
          subst heq
          rw [Nat.sub_self]
          exact .pure (wrap_run P w _ _ _ (none0 a2 cap2)) hm (.int _ _)
         ·rename_i hne
          cases h;cases he
          obtain ⟨b,cap',rfl,hge,hr⟩:=hat (by omega)
          obtain ⟨news,hsrc⟩:=src_slice (P:=P) (size:=k.size) (hels.take (hi2-lo)) (hsz.imp (fun h=>h) (fun h0=>by rw [h0];simp))
          have hlen:(xs.take (hi2-lo)).length=Nat.min xs.length (hi2-lo):=by rw [List.length_take];exact Nat.min_comm _ _
          have hle:=List.length_take_le (hi2-lo) xs
          obtain ⟨w',g',hst,m',l',f'⟩:=copy_row (P:=P) hm hb hge hn hr (lo:=lo) (hi:=hi2) hhi hout hsty hsrc (by omega)
          have hfst:=hsrc.first w (fun _=>rfl)
          rw [first_len k.size _ a _ xs.length _ cap] at hfst
          have hrun:(Builtin.copy_ #[st,xt] ty #[.slice (some ⟨b,lo*k.size,none⟩) (hi2-lo) cap2,.slice a xs.length cap]).run P w= .ok (.int .i64 (xs.take (hi2-lo)).length) w':=by
           have hmin:Nat.min xs.length (hi2-lo)=(xs.take (hi2-lo)).length:=hlen.symm
           rw [←hksz] at hfst
           generalize (xs.take (hi2-lo)).length=m at*
           simp [Builtin.copy_,run_underlying hund,Builtin.lenOf,sizeOf,typeInfo,hinf.info,hmin,hfst,hst,goInt]
          exact ⟨_,_,_,_,wrap_run P w _ _ _ hrun,.inl rfl,m',l',f',.int _ _⟩
        ·cases h
       ·cases h
      ·split at h
       ·cases h;cases he
        cases hd with
        | cap0 _ a2 hnl=>exact .pure (wrap_run P w _ _ _ (none0 a2 0)) hm (.int _ _)
       ·cases h
     ·cases h
    ·cases h
   ·cases h
  ·cases h
 ·cases h
inductive RdAll (g:Gh) (w:World):List AV→List Value→Prop where
 | nil:RdAll g w [] []
 | cons {x:AV} {v:Value} {xs:List AV} {vs:List Value} (h:Rd g w x v) (t:RdAll g w xs vs):RdAll g w (x::xs) (v::vs)
theorem RdAll.of_ev {t:Env} {a:Act} (ht:TRel g w t a): ∀(l:List Operand),RdAll g w (evAll t l) (l.map a.eval)
 | []=> .nil
 | x::r=> .cons (ht.ev x) (RdAll.of_ev ht r)
theorem min_run {xs:List AV} {us:List Value} (h:RdAll g w xs us): ∀{x r:AV} {u:Value},Rd g w x u→minA x xs=some r→ ∃v,(us.foldlM Builtin.min2 u:Sem Value).run P w= .ok v w∧Rd g w r v:=by
 induction h with
 | nil=>intro x r u hx h;cases x <;> (cases h;exact ⟨u,rfl,hx⟩)
 | @cons y v ys vs hy _ ih=>
  intro x r u hx h
  unfold minA at h
  split at h
  ·rename_i heq;cases heq
  ·rename_i k a k' b rest heq
   cases heq
   split at h
   ·rename_i hk
    subst hk
    obtain rfl:=hx.int_inv
    obtain rfl:=hy.int_inv
    obtain ⟨z,hz,rz⟩:=ih (.int _ _) h
    exact ⟨z,by simpa [List.foldlM_cons,Builtin.min2] using hz,rz⟩
   ·cases h
  ·cases h
theorem max_run {xs:List AV} {us:List Value} (h:RdAll g w xs us): ∀{x r:AV} {u:Value},Rd g w x u→maxA x xs=some r→ ∃v,(us.foldlM Builtin.max2 u:Sem Value).run P w= .ok v w∧Rd g w r v:=by
 induction h with
 | nil=>intro x r u hx h;cases x <;> (cases h;exact ⟨u,rfl,hx⟩)
 | @cons y v ys vs hy _ ih=>
  intro x r u hx h
  unfold maxA at h
  split at h
  ·rename_i heq;cases heq
  ·rename_i k a k' b rest heq
   cases heq
   split at h
   ·rename_i hk
    subst hk
    obtain rfl:=hx.int_inv
    obtain rfl:=hy.int_inv
    obtain ⟨z,hz,rz⟩:=ih (.int _ _) h
    exact ⟨z,by simpa [List.foldlM_cons,Builtin.max2] using hz,rz⟩
   ·cases h
  ·cases h
theorem data_sound (hm:Mem g bs w) {ts:Array TypeId} {ty:TypeId} {x r:AV} {u:Value} {e:Eff} (hx:Rd g w x u) (h:dataA x bs=some (r,e)):
  e= .none∧ ∃v,(Builtin.unsafeSliceData_ ts ty #[u]).run P w= .ok v w∧Rd g w r v:=by
 unfold dataA at h
 split at h
 ·cases h
  obtain ⟨a,cap,rfl,hnl,hnil⟩:=hx.lst_inv
  have ha:a=none:=by have:=hnl _ rfl;simpa using this
  subst ha
  exact ⟨rfl,_,Lib.run_unsafeSliceData_nil w ts ty _ _,.nilp⟩
 ·rename_i k n
  split at h
  ·rename_i sh sz es hb
   split at h
   ·rename_i hn
    cases h
    obtain ⟨a,cap,rfl,hels,loc,hge,hr,hl⟩:=hx.osl_at hm hb hn
    rcases hl with ⟨b,rfl,rfl⟩ | ⟨rfl,rfl,rfl,rfl⟩
    ·have hc0:cap≠0:=by
      obtain ⟨_,_,_,_,_,hcap,_⟩:=hr.2
      omega
     refine ⟨rfl,_,Lib.run_unsafeSliceData_row w ts ty _ _ _ hc0,.sptr k n 0 0 n sz _ _ rfl hge (Nat.le_refl _) (fun _=> .inl ⟨b,cap,rfl,by simp⟩)⟩
    ·exact ⟨rfl,_,Lib.run_unsafeSliceData_nil w ts ty _ _,.sptr k n 0 0 n sz _ _ rfl hge (Nat.le_refl _) (fun _=> .inr ⟨rfl,hn,rfl⟩)⟩
   ·cases h
  ·cases h
 ·cases h
theorem bytesN_spec: ∀{es:List AV} {s:List UInt8},bytesN es=some s→es=s.map ofByte
 | [],s,h=>by cases h;rfl
 | .int .u8 n::r,s,h=>by
  simp only [bytesN] at h
  split at h
  ·rename_i hn
   cases hr:bytesN r with
   | none=>rw [hr] at h;cases h
   | some l=>
    rw [hr] at h;cases h
    rw [bytesN_spec hr]
    simp only [List.map_cons,ofByte,List.cons.injEq,AV.int.injEq,true_and,and_true]
    have:n.toNat<256:=by omega
    simp only [UInt8.toNat_ofNat']
    omega
  ·cases h
 | .int .i8 _::_,_,h | .int .i16 _::_,_,h | .int .i32 _::_,_,h | .int .i64 _::_,_,h | .int .u16 _::_,_,h | .int .u32 _::_,_,h | .int .u64 _::_,_,h=>by cases h
 | .any::_,_,h | .unk::_,_,h | .bool _::_,_,h | .str _::_,_,h | .agg _::_,_,h | .tup _::_,_,h | .nilp::_,_,h | .ptr _ _::_,_,h | .sptr _ _ _ _::_,_,h | .eptr _::_,_,h | .lst _ _ _::_,_,h | .cap0 _::_,_,h | .osl _ _::_,_,h | .osv _ _ _ _::_,_,h | .fn _ _ _::_,_,h | .nilf::_,_,h | .ifc _::_,_,h | .ifi _ _ _::_,_,h=>by cases h
theorem freeze_heap {b:Nat} {c:Array Value} {ty:TypeId} {fz:Nat×Nat} (w:World) (h:w.heap[b]?=some (.cells c ty fz)) (n:Nat): ∃fz',(w.freeze ⟨b,0,none⟩ n).heap[b]?=some (.cells c ty fz'):=by
 unfold World.freeze
 split
 ·exact ⟨fz,h⟩
 ·obtain ⟨lo,hi⟩:=fz
  simp only [Array.getElem?_modify,if_pos,h,Option.map_some]
  exact ⟨_,rfl⟩
theorem freeze_other {b b2:Nat} (w:World) (n:Nat) (h:b2≠b):(w.freeze ⟨b,0,none⟩ n).heap[b2]?=w.heap[b2]?:=by
 unfold World.freeze
 split
 ·rfl
 ·simp [Array.getElem?_modify,Ne.symm h]
theorem freeze_size {b:Nat} (w:World) (n:Nat):(w.freeze ⟨b,0,none⟩ n).heap.size=w.heap.size:=by
 unfold World.freeze
 split
 ·rfl
 ·simp
theorem text_empty (hm:Mem g bs w) {t it ty:TypeId} {k m:Nat} {n:Int} {sh:Hd} {ns:List UInt8} {u:Value} (hb:Box.at bs k= .sl sh 1 (ns.map ofByte)) (hx:Rd g w (.sptr k m 0 0) u) (hnm:n=(m:Int)) (hm0:m=0) (hme:m=(ns.map ofByte).length):
  OpOk ((do pure (Next.value (←Builtin.unsafeString_ #[t,it] ty #[u,.int .i64 n])):Sem Next).run P w) g w (bs.set k (.sl ⟨sh.out,none,none⟩ 1 (ns.map ofByte))) (.str ns):=by
 obtain rfl:ns= []:=by
  cases ns with
  | nil=>rfl
  | cons a l=>simp at hme;omega
 subst hm0
 obtain ⟨loc,hge,hr⟩:=hm.sl k sh 1 _ hb
 have hk:k<bs.length:=at_lt (by rw [hb];simp)
 have hu: ∃a,u= .pointer a:=by
  cases hx with
  | sptr _ _ _ _ m' sz' loc' _ h1 h hle hv=>
   rw [hge] at h
   cases h
   rcases hv rfl with ⟨b,cap,_,rfl⟩ | ⟨_,_,rfl⟩
   ·exact ⟨_,rfl⟩
   ·exact ⟨_,rfl⟩
 obtain ⟨a,rfl⟩:=hu
 have hle:Le g w (g.put2 k (g.e k) g.S) w:=⟨fun _ _ h=>h,fun b o _=>rfl,fun j=>by
  by_cases e:k=j
  ·subst e;rw [Gh.put2_same];exact .same _
  ·rw [Gh.put2_other _ _ _ e];exact .same _⟩
 obtain ⟨m',l',f'⟩:=Mem.upd (id:=k) (x:= .sl ⟨sh.out,none,none⟩ 1 (([]:List UInt8).map ofByte)) (ge:=g.e k) (S':=g.S) (w':=w) hm hk (fun _ _ h=>h) (fun b o _=>rfl) (.same _)
  (fun b2 hb2 hne=>rfl) (Nat.le_refl _) (fun b2 h=> .inl h) (by simp) (fun _ _ h=>by cases h)
  (fun sh' sz' es' hes'=>by
   cases hes'
   refine ⟨loc,hge,hr.1,?_⟩
   cases loc with
   | none=>exact hr.2
   | some p=>
    obtain ⟨cc,ty0,fz,hh,hcs,hcap,hf',hrd,hout⟩:=hr.2
    exact ⟨cc,ty0,fz,hh,hcs,hcap,fun t ht=>(by cases ht),fun i j e x v a1 a2 a3=>⟨(hrd i j e x v a1 a2 a3).1.mono hle,(hrd i j e x v a1 a2 a3).2⟩,hout.1,fun _ _ _ _ h=>(by cases h)⟩)
  (fun b2 o h=> .inl h) (fun b2 o hs hblk=>by
   obtain ⟨ty',sz',es',h3,h4⟩:=(hm.stab b2 o hs).2 k hblk
   rw [hb] at h3;cases h3
   exact ⟨_,_,_,rfl,h4⟩) rfl rfl rfl
 subst hnm
 exact ⟨_,_,_,_,wrap_run P w _ _ _ (Lib.run_unsafeString_none w t it ty a),.inl rfl,m',l',f',.str []⟩
theorem text_sound {c:Cfg} (hc:CfgTy c P) (hm:Mem g bs w) {t it ty u':TypeId} (ht:P.underlying t=some (.pointer u')) {x n r:AV} {u v:Value} {e:Eff} {id:Nat} (hx:Rd g w x u) (hn:Rd g w n v) (h:textA c u' x n bs=some (r,e)) {bs':List Box} (he:e.on bs id=some bs'):
  OpOk ((do pure (Next.value (←Builtin.unsafeString_ #[t,it] ty #[u,v])):Sem Next).run P w) g w bs' r:=by
 unfold textA at h
 split at h
 ·cases h;cases he
  obtain rfl:=hx.nilp_inv
  obtain rfl:=hn.int_inv
  exact .pure (wrap_run P w _ _ _ (Lib.run_unsafeString_none w t it ty none)) hm (.str [])
 ·rename_i k m n
  split at h
  ·rename_i sh sz es j hb hj
   split at h
   ·rename_i hcond
    obtain ⟨hme,hnm,hsty,rfl,hj1,hlim⟩:=hcond
    cases hbs:bytesN es with
    | none=>rw [hbs] at h;cases h
    | some ns=>
     rw [hbs] at h;cases h;cases he
     obtain rfl:=bytesN_spec hbs
     obtain rfl:=hn.int_inv
     obtain ⟨info,hi⟩:=ty_is (hc.ty u' j hj)
     by_cases hm0:m=0
     ·exact text_empty hm hb hx hnm hm0 hme
     obtain ⟨b,cap,hge,rfl,hrow⟩:=hx.sptr_inv hm hb hme hm0
     obtain ⟨loc,hge',hr⟩:=hm.sl k sh 1 _ hb
     have hsr:=hrow
     obtain ⟨cc,ty0,fz,hh,hcs,hcap,hf',hrd,hout⟩:=hrow
     obtain ⟨rfl,hf⟩:=hf' _ hsty
     have hk:k<bs.length:=at_lt (by rw [hb];simp)
     rw [List.length_map] at hme hcap
     have hsh:w.shape? b=some (u',cc.size):=by simp [World.shape?,hh]
     have hrun:=Lib.run_unsafeString_row (P:=P) w t it ty u' ht (by simp [Program.cellsOf,hi.info,hi.size,hj1]) b cc.size hsh ns (fun h0=>hm0 (by rw [hme,h0];rfl)) (by omega) (by unfold sliceLim at hlim;omega) (fun j x hx=>by
      have hj:=getElem?_lt hx
      obtain ⟨v,hv,rv,_⟩:=hsr.cellsAt hr.1 (i:=j) (e:=ofByte x) (by rw [List.getElem?_map,hx];rfl) 0 (ofByte x) rfl
      obtain rfl:=rv.int_inv
      rw [addr_add]
      simpa using hv)
     obtain ⟨fz',hfz⟩:=freeze_heap w hh ns.length
     have hcell: ∀b2 o,(w.freeze ⟨b,0,none⟩ ns.length).cell? ⟨b2,o,none⟩=w.cell? ⟨b2,o,none⟩:=fun b2 o=>by
      by_cases e:b2=b
      ·subst e;rw [cell_row hfz,cell_row hh]
      ·exact cell_of_block (freeze_other w _ e) o
     have hle:Le g w (g.put2 k (g.e k) g.S) (w.freeze ⟨b,0,none⟩ ns.length):=⟨fun _ _ h=>h,fun b o _=>hcell b o,fun j=>by
      by_cases e:k=j
      ·subst e;rw [Gh.put2_same];exact .same _
      ·rw [Gh.put2_other _ _ _ e];exact .same _⟩
     obtain ⟨m',l',f'⟩:=Mem.upd (id:=k) (x:= .sl ⟨sh.out,none,none⟩ 1 (ns.map ofByte)) (ge:=g.e k) (S':=g.S) hm hk (fun _ _ h=>h) (fun b o _=>hcell b o) (.same _)
      (fun b2 hb2 hne=>freeze_other w _ (fun e=>hne (by rw [hge,e];rfl))) (by rw [freeze_size];exact Nat.le_refl _) (fun b2 h=> .inl h) (by simp) (fun _ _ h=>by cases h)
      (fun sh' sz' es' hes'=>by
       cases hes'
       refine ⟨some (b,cap),by rw [hge,List.length_map,hme],hr.1,cc,u',fz',hfz,hcs,by rw [List.length_map];exact hcap,fun t ht=>(by cases ht),fun i j e x v a1 a2 a3=>⟨(hrd i j e x v a1 a2 a3).1.mono hle,(hrd i j e x v a1 a2 a3).2⟩,hout.1,fun _ _ _ _ h=>(by cases h)⟩)
      (fun b2 o h=> .inl h) (fun b2 o hs hblk=>by
       obtain ⟨ty',sz',es',h3,h4⟩:=(hm.stab b2 o hs).2 k hblk
       rw [hb] at h3;cases h3
       exact ⟨_,_,_,rfl,h4⟩) (by unfold World.freeze;split <;> rfl) (by unfold World.freeze;split <;> rfl) (by unfold World.freeze;split <;> rfl)
     have hnm':(n:Int)=(ns.length:Int):=by rw [hnm,hme]
     rw [hnm']
     refine ⟨_,_,_,_,wrap_run P w _ _ _ (by simpa using hrun),.inl rfl,m',l',f',.str _⟩
   ·cases h
  ·cases h
 ·cases h
theorem builtin_sound {c:Cfg} (hc:CfgTy c P) (hm:Mem g bs w) {b:Builtin} {argTypes:Array TypeId} {type:TypeId} {consts:Array Bool} {xs:List AV} {vs:Array Value} {r:AV} {e:Eff} {id:Nat} (hx:RdAll g w xs vs.toList)
  (h:builtinA c b argTypes.toList xs bs id=some (r,e)) {bs':List Box} (he:e.on bs id=some bs'):OpOk ((builtin b argTypes type consts vs).run P w) g w bs' r:=by
 obtain ⟨ts⟩:=argTypes
 obtain ⟨vs⟩:=vs
 simp only at hx h
 unfold builtinA at h
 split at h
 ·split at h
  ·rename_i t x
   split at h
   ·rename_i i hi
    cases hx with
    | cons hx ht=>
     cases ht
     obtain ⟨rfl,v,hv,rv⟩:=len_sound hc hm (ty:=type) hi hx h
     cases he
     exact .pure (v:=v) (by simp only [builtin];exact wrap_run P w _ _ _ hv) hm rv
   ·cases h
  ·cases h
 ·split at h
  ·rename_i st xt s x
   cases hx with
   | cons hs ht=>cases ht with
    | cons hx ht=>
     cases ht
     simp only [builtin]
     exact append_sound hc hm hs hx h he
  ·cases h
 ·split at h
  ·rename_i x rest
   cases hx with
   | cons hx ht=>
    cases hmn:minA x rest with
    | none=>rw [hmn] at h;cases h
    | some y=>
     rw [hmn] at h;cases h;cases he
     obtain ⟨v,hv,rv⟩:=min_run (P:=P) ht hx hmn
     exact .pure (v:=v) (by simp only [builtin,Builtin.min_];exact wrap_run P w _ _ _ hv) hm rv
  ·cases h
 ·split at h
  ·rename_i x rest
   cases hx with
   | cons hx ht=>
    cases hmn:maxA x rest with
    | none=>rw [hmn] at h;cases h
    | some y=>
     rw [hmn] at h;cases h;cases he
     obtain ⟨v,hv,rv⟩:=max_run (P:=P) ht hx hmn
     exact .pure (v:=v) (by simp only [builtin,Builtin.max_];exact wrap_run P w _ _ _ hv) hm rv
  ·cases h
 ·split at h
  ·cases hx with
   | cons hx ht=>
    cases ht
    obtain ⟨rfl,v,hv,rv⟩:=data_sound (P:=P) hm (ts:=⟨ts⟩) (ty:=type) hx h
    cases he
    exact .pure (v:=v) (by simp only [builtin];exact wrap_run P w _ _ _ hv) hm rv
  ·cases h
 ·split at h
  ·rename_i t it x n
   split at h
   ·rename_i u' hu'
    have hu:P.underlying t=some (.pointer u'):=by
     unfold Cfg.descOf at hu'
     cases ht:c.ti t with
     | none=>rw [ht] at hu';cases hu'
     | some i=>
      rw [ht] at hu'
      obtain ⟨info,hi⟩:=ty_is (hc.ty t i ht)
      simp only [Option.map_some,Option.some.injEq] at hu'
      rw [←hu'];exact hi.und
    cases hx with
    | cons hx ht=>cases ht with
     | cons hn ht=>
      cases ht
      simp only [builtin]
      exact text_sound hc hm hu hx hn h he
   ·cases h
  ·cases h
 ·split at h
  ·rename_i st xt d x
   cases hx with
   | cons hd ht=>cases ht with
    | cons hx ht=>
     cases ht
     simp only [builtin]
     exact copy_sound hc hm hd hx h he
  ·cases h
 ·cases h
theorem RdAll.get {xs:List AV} {vs:List Value} (h:RdAll g w xs vs):xs.length=vs.length∧ ∀(i:Nat) (x:AV) (v:Value),xs[i]?=some x→vs[i]?=some v→Rd g w x v:=by
 induction h with
 | nil=>exact ⟨rfl,fun i x v h=>by simp at h⟩
 | cons h _ ih=>
  refine ⟨by simp [ih.1],fun i x v hx hv=> ?_⟩
  cases i with
  | zero=>simp at hx hv;subst hx;subst hv;exact h
  | succ i=>simp at hx hv;exact ih.2 i x v hx hv
set_option maxHeartbeats 400000 in
theorem aop_sound {c:Cfg} (hc:CfgTy c P) (hm:Mem g bs w) {t:Env} {a:Act} (ht:TRel g w t a) {o:Oper} {r:AV} {e:Eff} {id:Nat} (h:aop c o.op t bs id=some (r,e)) {bs':List Box} (he:e.on bs id=some bs'):
  OpOk ((execOp a.eval o).run P w) g w bs' r:=by
 obtain ⟨dst,op,type,pos,after,guard⟩:=o
 simp only at h
 cases op with
 | move x=>cases h;cases he;exact .pure (v:=a.eval x) rfl hm (ht.ev x)
 | assign x=>cases h;cases he;exact .pure (v:=a.eval x) rfl hm (ht.ev x)
 | pick x y z=>obtain ⟨rfl,h'⟩:=pick_sound (P:=P) hm (ht.ev x) (ht.ev y) (ht.ev z) h;cases he;exact h'
 | alloc el=>exact alloc_sound hc hm h he
 | box el x=>exact box_sound hm (ht.ev x) h he
 | build ty parts=>
  obtain ⟨rfl,h'⟩:=build_sound hc hm (qs:=parts.map fun p=>(p.1,a.eval p.2)) (by simpa using parts_rel ht parts.toList) h
  cases he;exact h'
 | buildSlice ty len parts=>
  simp only [aop] at h
  have key:=buildSliceL_sound (P:=P) hc hm (qs:=parts.map fun (i,x)=>(i,a.eval x)) (by rw [Array.toList_map];exact parts_rel ht parts.toList) h he
  simp only [execOp]
  exact key
 | load ty x=>obtain ⟨rfl,h'⟩:=load_sound hc hm (ht.ev x) h;cases he;exact h'
 | store ty x y=>
  simp only [aop] at h
  exact store_sound hc hm (ht.ev x) (ht.ev y) h he
 | makeInterface ty x=>exact mkIfc_sound hc hm (ht.ev x) h he
 | nilCheck x=>obtain ⟨rfl,h'⟩:=nilCheck_sound (P:=P) (o:=⟨dst,.nilCheck x,type,pos,after,guard⟩) (a:=a) hm rfl (ht.ev x) h;cases he;exact h'
 | binOp op ty x y ty'=>
  simp only [aop] at h
  cases hb:binN c ty op y (ev t x) (ev t y) with
  | none=>rw [hb] at h;cases h
  | some z=>
   rw [hb] at h;cases h;cases he
   unfold binN at hb
   split at hb
   ·rename_i hq
    refine nil_sound hc hm (ht.ev x) hb x y hq ?_
    unfold nilC at hq;split at hq
    ·rfl
    ·cases hq
   ·exact bin_sound hc hm (ht.ev x) (ht.ev y) hb x y
 | unOp op ty x=>
  simp only [aop] at h
  cases hb:unA op (ev t x) with
  | none=>rw [hb] at h;cases h
  | some z=>rw [hb] at h;cases h;cases he;exact un_sound hm (ht.ev x) hb
 | convert src dst x=>
  simp only [aop] at h
  exact convert_sound hc hm (ht.ev x) h he
 | makeFunc fn first caps=>
  cases fn with
  | func f=>
   cases h;cases he
   obtain ⟨h1,h2⟩:=(RdAll.of_ev ht first.toList).get
   obtain ⟨h3,h4⟩:=(RdAll.of_ev ht caps.toList).get
   exact .pure (v:= .func (.func f) (first.map a.eval) (caps.map a.eval)) rfl hm (.fn f _ _ _ _ (by simp [h1]) (by simp [h3]) (fun i c v hc hv=>h2 i c v hc (by simpa using hv)) (fun i c v hc hv=>h4 i c v hc (by simpa using hv)))
  | _=>cases h
 | makeSlice ty l m=>
  simp only [aop] at h
  exact makeSlice_sound hc hm (ht.ev l) (ht.ev m) h he
 | slice ty x lo hi mx=>
  simp only [aop] at h
  split at h
  ·rename_i i hi
   cases mx with
   | none=>exact slice2_sound hc hm hi (ht.ev x) (opt_rel ht lo) (opt_rel ht _) h he
   | some m=>obtain ⟨rfl,h'⟩:=slice3_sound (P:=P) (vm:=some (a.eval m)) hc hm hi (ht.ev x) (opt_rel ht lo) (opt_rel ht _) (ht.ev m) h;cases he;exact h'
  ·cases h
 | fieldAddr ty x f=>obtain ⟨rfl,h'⟩:=fieldAddr_sound hc hm (ht.ev x) h;cases he;exact h'
 | field ty x f=>obtain ⟨rfl,h'⟩:=field_sound hc hm (ht.ev x) h;cases he;exact h'
 | indexAddr ty x y=>obtain ⟨rfl,h'⟩:=indexAddr_sound hc hm (ht.ev x) (ht.ev y) h;cases he;exact h'
 | index ty x y=>obtain ⟨rfl,h'⟩:=index_sound hc hm (ht.ev x) (ht.ev y) h;cases he;exact h'
 | extract x i=>obtain ⟨rfl,h'⟩:=extract_sound (P:=P) hm (ht.ev x) h;cases he;exact h'
 | makeMap ty r=>
  simp only [aop] at h
  exact makeMap_sound hc hm (ov:=r.map a.eval) (fun x hx=>by
   cases r with
   | none=>cases hx
   | some y=>cases hx;exact ⟨_,rfl,ht.ev y⟩) (fun hx=>by
   cases r with
   | none=>rfl
   | some y=>cases hx) h he
 | range ty x=>exact range_sound hc hm (ht.ev x) h he
 | next x str=>exact next_sound hm (ht.ev x) h he
 | lookup ty x k ok=>obtain ⟨rfl,h'⟩:=lookup_sound hc hm (ht.ev x) (ht.ev k) h;cases he;exact h'
 | mapUpdate ty m k x=>exact mapUpdate_sound hc hm (ht.ev m) (ht.ev k) (ht.ev x) h he
 | insert ty m k x=>exact mapUpdate_sound hc hm (ht.ev m) (ht.ev k) (ht.ev x) h he
 | mapEntry ty m k=>exact mapEntry_sound hc hm (ht.ev m) (ht.ev k) h he
 | entryStore ty m s x=>exact entryStore_sound (P:=P) hm (ht.ev m) (ht.ev s) (ht.ev x) h he
 | entry x=>obtain ⟨rfl,h'⟩:=entry_sound (P:=P) hm (ht.ev x) h;cases he;exact h'
 | call k=>
  obtain ⟨callee,args,argTypes⟩:=k
  simp only [aop] at h
  split at h
  ·simp only [execOp,resolve,invoke,Sem.run_bind,Sem.run_pure,Result.andThen_ok]
   exact builtin_sound hc hm (vs:=args.map a.eval) (by simpa using RdAll.of_ev ht args.toList) h he
  ·cases h
 | _=>cases h
end
end Go.Am
