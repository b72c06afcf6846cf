/- Each operation of the abstract machine is sound, third part: -/
import Derived.Test.YtnlndhjfmghajaaGreatDoorAmOps2
set_option linter.all false
namespace Go.Am
variable [Kn]
section
variable {P:Program} {g:Gh} {bs:List Box} {w:World}
theorem indexAddr_sound {c:Cfg} (hc:CfgTy c P) (hm:Mem g bs w) {t:TypeId} {x y r:AV} {u v:Value} {e:Eff} (hx:Rd g w x u) (hy:Rd g w y v) (h:indexAddrA c (c.ti t) x y bs=some (r,e)):
  e= .none∧OpOk ((do pure (Next.value (←Instr.indexAt t u v)):Sem Next).run P w) g w bs r:=by
 unfold indexAddrA at h
 split at h
 ·rename_i i k n hti
  obtain ⟨info,hi⟩:=ty_is (hc.ty t i hti)
  obtain rfl:=hy.int_inv
  split at h
  ·rename_i len el hdesc
   split at h
   ·rename_i hn
    split at h
    ·rename_i j hj
     obtain ⟨einfo,he⟩:=ty_is (hc.ty el j hj)
     obtain ⟨h1,b,off,rfl,rr⟩:=move_sound hm hx h
     refine ⟨h1,.pure (v:=_) ?_ hm rr⟩
     simp [Instr.indexAt,asIntOf,run_underlying (hdesc▸hi.und),Instr.sureAddr,hn,sizeOf,typeInfo,he.info,he.size,addr_add]
    ·cases h
   ·cases h
  ·rename_i el hdesc
   split at h
   ·rename_i j hj
    obtain ⟨einfo,he⟩:=ty_is (hc.ty el j hj)
    split at h
    ·rename_i nl sz es
     split at h
     ·rename_i hn
      split at h
      ·rename_i z hz
       cases h
       obtain ⟨a,cap,rfl,hel,_,hS⟩:=hx.lst_at
       have hne:es≠ []:=by intro h0;rw [h0] at hz;cases hz
       obtain ⟨b,off,rfl,hcs⟩:=hel.at_ hne
       have hlt:=getElem?_lt hz
       refine ⟨rfl,.pure (v:= .pointer (some ⟨b,off+n.toNat*j.size,none⟩)) ?_ hm (Rd.eptr_mk (by rw [←hn.2];exact (hcs _ _ hz).cells) (fun l x hx=>⟨?_,by rw [←hn.2];exact hS b off rfl _ _ _ _ hz hx⟩))⟩
       ·have:n<(es.length:Int):=by omega
        simp [Instr.indexAt,asIntOf,run_underlying (hdesc▸hi.und),hn.1,this,sizeOf,typeInfo,he.info,he.size,addr_add]
       ·have hp:=(hel.ok _ _ hz).1
        cases z <;> simp only [AV.cells] at hx <;> first
         | (simp only [AV.plain] at hp;exact plainAll_get hp hx)
         | (cases l with
            | zero => simp at hx; rw [← hx]; exact hp
            | succ l => simp at hx)
      ·cases h
     ·cases h
    ·rename_i k m
     split at h
     ·rename_i sh sz es hb
      split at h
      ·rename_i hn
       cases h
       obtain ⟨hn0,hnl,hnm,hsz⟩:=hn
       obtain ⟨a,cap,rfl,hel,loc,hge,hr,hl⟩:=hx.osl_at hm hb hnl
       have hne:es≠ []:=by intro h0;rw [h0] at hnl;simp at hnl;omega
       rcases hl with ⟨b,rfl,rfl⟩ | ⟨_,h0,_⟩
       ·refine ⟨rfl,.pure (v:= .pointer (some ⟨b,n.toNat*sz+0,none⟩)) ?_ hm (.sptr k m n.toNat 0 m sz (some (b,cap)) _ rfl hge (Nat.le_refl _) (fun _=> .inl ⟨b,cap,rfl,rfl⟩))⟩
        have:n<(es.length:Int):=by omega
        simp [Instr.indexAt,asIntOf,run_underlying (hdesc▸hi.und),hn0,this,sizeOf,typeInfo,he.info,he.size,addr_add,hsz]
       ·exact absurd h0 hne
      ·cases h
     ·cases h
    ·rename_i k m lo hi2
     split at h
     ·rename_i sh sz es hb
      split at h
      ·rename_i hn
       cases h
       obtain ⟨hn0,hnl,hhm,hnm,hsz⟩:=hn
       obtain ⟨b,cap,a,rfl,ha,hge,hr,hel⟩:=hx.osv_at hm hb hnl
       have hcap:=hel.cap
       rcases ha with rfl | ha
       ·refine ⟨rfl,.pure (v:= .pointer (some ⟨b,(lo+n.toNat)*sz+0,none⟩)) ?_ hm (.sptr k m (lo+n.toNat) 0 m sz (some (b,cap)) _ rfl hge (Nat.le_refl _) (fun _=> .inl ⟨b,cap,rfl,rfl⟩))⟩
        have:n<((hi2-lo:Nat):Int):=by omega
        simp [Instr.indexAt,asIntOf,run_underlying (hdesc▸hi.und),hn0,this,sizeOf,typeInfo,he.info,he.size,addr_add,hsz,Nat.add_mul]
       ·omega
      ·cases h
     ·cases h
    ·cases h
   ·cases h
  ·cases h
 ·cases h
theorem linked_at {sh:Hd} {sz:Nat} {es:List AV} {b cap j:Nat} {i:TI} {el:AV} (hrow:SlRow g w sh sz es b cap) (h:CellsAt g w b (j*sz) el.cells) (hel:es[j]?=some el):CellsAt g w b (j*sz) (linked sh j i el.cells):=by
 unfold linked
 split
 ·rename_i i' j' k' n hl
  split
  ·split
   ·rename_i hij
    subst hij
    intro q x hx
    rw [List.getElem?_set] at hx
    by_cases hq:j'=q
    ·subst hq
     rw [if_pos rfl] at hx
     split at hx
     ·rename_i hlt
      cases hx
      obtain ⟨v,hv,_⟩:=h j' _ (List.getElem?_eq_getElem hlt)
      obtain ⟨c,ty,fz,h1,h2,h3,h4,h5,h6,h7⟩:=hrow
      refine ⟨v,hv,h7 _ _ _ _ hl v ?_ (List.getElem?_eq_some_iff.1 hel).1⟩
      rw [cell_row h1] at hv
      exact hv
     ·cases hx
    ·rw [if_neg hq] at hx
     exact h q x hx
   ·exact h
  ·exact h
 ·exact h
theorem load_sound {c:Cfg} (hc:CfgTy c P) (hm:Mem g bs w) {t:TypeId} {x r:AV} {u:Value} {e:Eff} (hx:Rd g w x u) (h:loadA (c.ti t) x bs=some (r,e)):
  e= .none∧OpOk ((do pure (Next.value (←Instr.loadAt t u)):Sem Next).run P w) g w bs r:=by
 unfold loadA at h
 split at h
 ·rename_i i hti
  obtain ⟨info,hi⟩:=ty_is (hc.ty t i hti)
  have fin: ∀{b o off:Nat} {cs:List AV} {p:AV},CellsAt g w b o cs→partA i cs off=some p→u= .pointer (some ⟨b,o+off,none⟩)→OpOk ((do pure (Next.value (←Instr.loadAt t u)):Sem Next).run P w) g w bs p:=by
   intro b o off cs p hcs hp hu
   obtain ⟨z,hz,rz⟩:=load_run (P:=P) hi hcs hp
   subst hu
   exact .pure (v:=z) (by simp [Instr.loadAt,Instr.sureAddr,hz]) hm rz
  split at h
  ·rename_i k off
   split at h
   ·rename_i ty cs hb
    cases hp:partA i cs off with
    | none=>rw [hp] at h;cases h
    | some p=>
     rw [hp] at h;cases h
     obtain ⟨b,hge,hu⟩:=hx.ptr_inv
     obtain ⟨b',hge',cc,hh,hn,hcs⟩:=hm.var k ty cs hb
     rw [hge] at hge';cases hge'
     refine ⟨rfl,fin (o:=0) (b:=b) (fun j x hx=> ?_) hp (by rw [hu,Nat.zero_add])⟩
     have hj:=getElem?_lt hx
     have hj':j<cc.size:=by omega
     exact ⟨cc[j],by rw [Nat.zero_add,cell_row hh];simp [hj'],hcs j x _ hx (by simp [hj'])⟩
   ·cases h
  ·rename_i k n j off
   split at h
   ·rename_i sh sz es hb
    split at h
    ·rename_i hn
     split at h
     ·rename_i el hel
      cases hp:partA i (linked sh j i el.cells) off with
      | none=>rw [hp] at h;cases h
      | some p=>
       rw [hp] at h;cases h
       obtain ⟨b,cap,hge,hu,hrow⟩:=hx.sptr_inv hm hb hn (by have:=getElem?_lt hel;omega)
       obtain ⟨loc,hge',hr⟩:=hm.sl k sh sz es hb
       exact ⟨rfl,fin (linked_at hrow (hrow.cellsAt hr.1 hel).cells hel) hp hu⟩
     ·cases h
    ·cases h
   ·cases h
  ·rename_i cs
   cases hp:partA i cs 0 with
   | none=>rw [hp] at h;cases h
   | some p=>
    rw [hp] at h;cases h
    obtain ⟨b,off,hu,hcs,_⟩:=hx.eptr_inv
    exact ⟨rfl,fin hcs hp hu⟩
  ·cases h
 ·cases h
theorem opt_rel {t:Env} {a:Act} (ht:TRel g w t a) (x:Option Operand):match x.map (ev t),x.map a.eval with | none,none=>True | some x,some v=>Rd g w x v | _,_=>False:=by
 cases x with
 | none=>trivial
 | some x=>exact ht.ev x
theorem str_slice (s:List UInt8) (l h:Nat):(ByteArray.mk s.toArray).extract l h=ByteArray.mk ((s.take h).drop l).toArray:=by
 rw [ByteArray.extract_mk,List.drop_take]
theorem bounds_run {lo hi:Option AV} {vl vh:Option Value} {len cap h l:Nat} (isSlice:Bool) (hlo:match lo,vl with | none,none=>True | some x,some v=>Rd g w x v | _,_=>False) (hhi:match hi,vh with | none,none=>True | some x,some v=>Rd g w x v | _,_=>False)
  (hb:boundA hi len len=some h) (lb:boundA lo 0 h=some l) (hc:len≤cap):(Instr.sliceBounds isSlice len cap vl vh none).run P w= .ok (l,h,cap) w∧l≤h∧h≤len:=by
 have hh:h≤len:=by
  unfold boundA at hb
  split at hb
  ·cases hb;exact Nat.le_refl _
  ·split at hb
   ·cases hb;omega
   ·cases hb
  ·cases hb
 have hl:l≤h:=by
  unfold boundA at lb
  split at lb
  ·cases lb;exact Nat.zero_le _
  ·split at lb
   ·cases lb;omega
   ·cases lb
  ·cases lb
 refine ⟨?_,hl,hh⟩
 have h1: ∀z code,vh=some z→(Instr.sliceBound z cap code).run P w= .ok h w:=fun z code hz=>by
  subst hz
  unfold boundA at hb
  split at hb
  ·exact hhi.elim
  ·obtain rfl:=Rd.int_inv hhi
   split at hb
   ·rename_i hi'
    cases hb
    have h0:=hi'.1
    have h3:=Int.le_trans hi'.2 (show (len:Int)≤(cap:Int) by omega)
    simp [Instr.sliceBound,asIntOf,h0,h3]
   ·cases hb
  ·cases hb
 have h1':vh=none→h=len:=fun hz=>by
  subst hz
  unfold boundA at hb
  split at hb
  ·cases hb;rfl
  ·exact hhi.elim
  ·cases hb
 have h2: ∀z code,vl=some z→(Instr.sliceBound z h code).run P w= .ok l w:=fun z code hz=>by
  subst hz
  unfold boundA at lb
  split at lb
  ·exact hlo.elim
  ·obtain rfl:=Rd.int_inv hlo
   split at lb
   ·rename_i hi'
    cases lb
    simp [Instr.sliceBound,asIntOf,hi']
   ·cases lb
  ·cases lb
 have h2':vl=none→l=0:=fun hz=>by
  subst hz
  unfold boundA at lb
  split at lb
  ·cases lb;rfl
  ·exact hlo.elim
  ·cases lb
 cases vh with
 | none=>
  have:=h1' rfl
  subst this
  cases vl with
  | none=>have:=h2' rfl;subst this;simp [Instr.sliceBounds]
  | some z=>simp [Instr.sliceBounds,h2 z _ rfl]
 | some y=>
  cases vl with
  | none=>have:=h2' rfl;subst this;simp [Instr.sliceBounds,h1 y _ rfl]
  | some z=>simp [Instr.sliceBounds,h1 y _ rfl,h2 z _ rfl]
theorem sub_get {es:List AV} {h l i:Nat} {e:AV} (he:((es.take h).drop l)[i]?=some e):es[l+i]?=some e:=by
 rw [List.getElem?_drop,List.getElem?_take] at he
 split at he
 ·exact he
 ·cases he
theorem sub_lst {sz:Nat} {es:List AV} {a:Option Addr} {cap h l:Nat} (nl:Option Bool) (hel:ElemsAt g w sz es a cap) (hnl: ∀x,nl=some x→a.isNone=x)
  (hS: ∀b off,a=some ⟨b,off,none⟩→ ∀(i j:Nat) (e x:AV),es[i]?=some e→e.cells[j]?=some x→g.S b (off+i*sz+j)) (hlh:l≤h) (hh:h≤es.length):
  Rd g w (.lst nl sz ((es.take h).drop l)) (.slice (if cap=l then a else a.map (·.add (l*sz))) (h-l) (cap-l)):=by
 have hlen:((es.take h).drop l).length=h-l:=by simp;omega
 have hcap:=hel.cap
 by_cases hne:(es.take h).drop l= []
 ·have:h-l=0:=by rw [←hlen,hne];rfl
  have h2:=Rd.lst (g:=g) (w:=w) nl sz [] (if cap=l then a else a.map (·.add (l*sz))) (cap-l) 0 0 (fun _ _=>undef) (fun x hx=>by rw [←hnl x hx];split <;> cases a <;> rfl)
   (fun hn=>⟨rfl,by
    have ha:a=none:=by cases a with
     | none=>rfl
     | some _=>split at hn <;> simp at hn
    have:=(hel.nil ha).2;omega⟩) (Nat.zero_le _) (fun h=>absurd rfl h) (fun i e h=>by simp at h) (fun i j e x h=>by simp at h) (fun i j e x h=>by simp at h)
  rw [hne,this]
  exact h2
 ·have hes:es≠ []:=by intro h0;rw [h0] at hne;simp at hne
  obtain ⟨b,off,rfl,hcs⟩:=hel.at_ hes
  have hpos:0<h-l:=by rw [←hlen];exact List.length_pos_iff.2 hne
  have hcl: ¬ cap=l:=by omega
  rw [if_neg hcl]
  have hval: ∀i j:Nat,∃v,∀e x,((es.take h).drop l)[i]?=some e→e.cells[j]?=some x→w.cell? ⟨b,off+l*sz+i*sz+j,none⟩=some v∧Rd g w x v∧v.oneCell'=true:=fun i j=>by
   cases hi:((es.take h).drop l)[i]? with
   | none=>exact ⟨undef,fun e x he=>by cases he⟩
   | some e=>
    cases hj:e.cells[j]? with
    | none=>exact ⟨undef,fun e' x he hx=>by cases he;rw [hj] at hx;cases hx⟩
    | some x=>
     obtain ⟨v,hv,rv,ov⟩:=hcs _ _ (sub_get hi) j x hj
     refine ⟨v,fun e' x' he hx=> ?_⟩
     cases he
     rw [hj] at hx;cases hx
     refine ⟨?_,rv,ov⟩
     rw [show off+l*sz+i*sz+j=off+(l+i)*sz+j by rw [Nat.add_mul];omega]
     exact hv
  have:=Rd.lst (g:=g) (w:=w) nl sz ((es.take h).drop l) (some ⟨b,off+l*sz,none⟩) (cap-l) b (off+l*sz) (fun i j=>(hval i j).choose) (fun x hx=>by rw [←hnl x hx];rfl) (fun hn=>by cases hn)
   (by rw [hlen];omega) (fun _=>rfl) (fun i e he=>hel.ok _ _ (sub_get he))
   (fun i j e x he hx=>⟨by rw [show off+l*sz+i*sz+j=off+(l+i)*sz+j by rw [Nat.add_mul];omega];exact hS b off rfl _ _ _ _ (sub_get he) hx,((hval i j).choose_spec e x he hx).1,((hval i j).choose_spec e x he hx).2.2⟩)
   (fun i j e x he hx=>((hval i j).choose_spec e x he hx).2.1)
  rw [hlen] at this
  simpa only [Option.map_some,addr_add] using this
theorem part_lst {sz:Nat} {es:List AV} {b cap lo hi:Nat} {a:Addr} (hel:ElemsAt g w sz es (some ⟨b,0,none⟩) cap) (hS: ∀o,o<es.length*sz→g.S b o) (ha:a=⟨b,lo*sz,none⟩∨cap=lo) (hlh:lo≤hi) (hh:hi≤es.length):
  Rd g w (.lst none sz ((es.take hi).drop lo)) (.slice (some a) (hi-lo) (cap-lo)):=by
 have hcap:=hel.cap
 by_cases hc:cap=lo
 ·have h0:(es.take hi).drop lo= []:=List.eq_nil_of_length_eq_zero (by simp;omega)
  have h1:hi-lo=0:=by omega
  rw [h0,h1]
  exact Rd.lst (g:=g) (w:=w) none sz [] (some a) (cap-lo) 0 0 (fun _ _=>undef) (fun x hx=>by cases hx) (fun hn=>by cases hn) (Nat.zero_le _) (fun h=>absurd rfl h) (fun i e h=>by simp at h) (fun i j e x h=>by simp at h) (fun i j e x h=>by simp at h)
 ·have ha':a=⟨b,lo*sz,none⟩:=by
   rcases ha with h | h
   ·exact h
   ·exact absurd h hc
  subst ha'
  have:=sub_lst (h:=hi) (l:=lo) none hel (fun x h=>by cases h) (fun b' off hab i j e x he hx=>by
   simp only [Option.some.injEq,Addr.mk.injEq,and_true] at hab
   obtain ⟨rfl,rfl⟩:=hab
   refine hS _ ?_
   have hlt:=getElem?_lt he
   have hlt':=getElem?_lt hx
   rw [(hel.ok _ _ he).2] at hlt'
   have:(i+1)*sz≤es.length*sz:=Nat.mul_le_mul_right _ hlt
   rw [Nat.add_mul] at this
   omega) hlh hh
  rw [if_neg hc] at this
  simpa [addr_add] using this
theorem sizeIs_spec {c:Cfg} (hc:CfgTy c P) {el:TypeId} {sz:Nat} {es:List AV} (h:sizeIs (c.ti el) sz es=true): ∃j info,TyIs P el j info∧(sz=j.size∨es= []):=by
 unfold sizeIs at h
 split at h
 ·rename_i j hj
  obtain ⟨info,hi⟩:=ty_is (hc.ty el j hj)
  refine ⟨j,info,hi,?_⟩
  simp only [Bool.or_eq_true,beq_iff_eq,List.isEmpty_iff] at h
  exact h
 ·cases h
theorem share_box (hm:Mem g bs w) {k:Nat} {sh:Hd} {sz:Nat} {es:List AV} (hb:Box.at bs k= .sl sh sz es):
  ∃g',Mem g' (bs.set k (.sl ⟨true,sh.ty,none⟩ sz es)) w∧Le g w g' w∧Fr g w g' w∧(∀j,g'.e j=g.e j)∧ ∀b cap n,g.e k= .sl n sz (some (b,cap))→ ∀o,o<es.length*sz→g'.S b o:=by
 obtain ⟨loc,hge,hr⟩:=hm.sl k sh sz es hb
 have hk:k<bs.length:=at_lt (by rw [hb];simp)
 have he:(fun b o=>g.S b o∨((g.e k).blk=some b∧o<es.length*sz))=(fun b o=>g.S b o∨((g.e k).blk=some b∧o<es.length*sz)):=rfl
 have hlt: ∀b,(g.e k).blk=some b→b<w.heap.size:=fun b hb'=>hm.blk_lt hb'
 have hput: ∀j,(g.put2 k (g.e k) (fun b o=>g.S b o∨((g.e k).blk=some b∧o<es.length*sz))).e j=g.e j:=fun j=>by
  by_cases h:k=j
  ·subst h;rw [Gh.put2_same]
  ·rw [Gh.put2_other _ _ _ h]
 have hle:Le g w (g.put2 k (g.e k) (fun b o=>g.S b o∨((g.e k).blk=some b∧o<es.length*sz))) w:=⟨fun _ _ h=> .inl h,fun _ _ _=>rfl,fun j=>by rw [hput];exact .same _⟩
 obtain ⟨h1,h2,h3⟩:=Mem.upd (w':=w) (id:=k) (x:= .sl ⟨true,sh.ty,none⟩ sz es) (ge:=g.e k) (S':=fun b o=>g.S b o∨((g.e k).blk=some b∧o<es.length*sz)) hm hk
  (fun _ _ h=> .inl h) (fun _ _ _=>rfl) (.same _) (fun _ _ _=>rfl) (Nat.le_refl _) (fun _ h=> .inl h) (by simp) (fun ty cs h=>by cases h)
  (fun sh' sz' es' h=>by
   cases h
   refine ⟨loc,hge,hr.1,?_⟩
   cases loc with
   | none=>exact hr.2
   | some p=>
    obtain ⟨b,cap⟩:=p
    obtain ⟨c,ty,fz,q1,q2,q3,q4,q5,q6,q7⟩:=hr.2
    refine ⟨c,ty,fz,q1,q2,q3,fun t ht=>⟨(q4 t ht).1,fun o ho=>(q4 t ht).2 o (Nat.le_trans (by split <;> simp) ho)⟩,fun i j e x v a1 a2 a3=>⟨(q5 i j e x v a1 a2 a3).1.mono hle,(q5 i j e x v a1 a2 a3).2⟩,fun _ o ho=> .inr ⟨by rw [hge];rfl,ho⟩,fun _ _ _ _ hl=>(by cases hl)⟩)
  (fun b o h=>h.imp id (fun h=>⟨hlt b h.1,h.1⟩))
  (fun b o h hblk=>by
   rcases h with h | h
   ·obtain ⟨ty',sz',es',h1,h2⟩:=(hm.stab b o h).2 k hblk
    rw [hb] at h1;cases h1
    exact ⟨_,_,_,rfl,h2⟩
   ·exact ⟨_,_,_,rfl,h.2⟩) rfl rfl rfl
 exact ⟨_,h1,h2,h3,hput,fun b cap n hg o ho=> .inr ⟨by rw [hg];rfl,ho⟩⟩
theorem unlink_box (hm:Mem g bs w) {k:Nat} {sh:Hd} {sz:Nat} {es:List AV} (hb:Box.at bs k= .sl sh sz es):
  ∃g',Mem g' (bs.set k (.sl ⟨sh.out,sh.ty,none⟩ sz es)) w∧Le g w g' w∧Fr g w g' w∧ ∀j,g'.e j=g.e j:=by
 obtain ⟨loc,hge,hr⟩:=hm.sl k sh sz es hb
 have hk:k<bs.length:=at_lt (by rw [hb];simp)
 have hput: ∀j,(g.put2 k (g.e k) g.S).e j=g.e j:=fun j=>by
  by_cases h:k=j
  ·subst h;rw [Gh.put2_same]
  ·rw [Gh.put2_other _ _ _ h]
 have hle:Le g w (g.put2 k (g.e k) g.S) w:=⟨fun _ _ h=>h,fun _ _ _=>rfl,fun j=>by rw [hput];exact .same _⟩
 obtain ⟨h1,h2,h3⟩:=Mem.upd (w':=w) (id:=k) (x:= .sl ⟨sh.out,sh.ty,none⟩ sz es) (ge:=g.e k) (S':=g.S) hm hk
  (fun _ _ h=>h) (fun _ _ _=>rfl) (.same _) (fun _ _ _=>rfl) (Nat.le_refl _) (fun _ h=> .inl h) (by simp) (fun ty cs h=>by cases h)
  (fun sh' sz' es' h=>by
   cases h
   refine ⟨loc,hge,hr.1,?_⟩
   cases loc with
   | none=>exact hr.2
   | some p=>
    obtain ⟨b,cap⟩:=p
    obtain ⟨c,ty,fz,q1,q2,q3,q4,q5,q6,q7⟩:=hr.2
    exact ⟨c,ty,fz,q1,q2,q3,q4,fun i j e x v a1 a2 a3=>⟨(q5 i j e x v a1 a2 a3).1.mono hle,(q5 i j e x v a1 a2 a3).2⟩,q6,fun _ _ _ _ hl=>(by cases hl)⟩)
  (fun b o h=> .inl h)
  (fun b o h hblk=>by
   obtain ⟨ty',sz',es',h1,h2⟩:=(hm.stab b o h).2 k hblk
   rw [hb] at h1;cases h1
   exact ⟨_,_,_,rfl,h2⟩) rfl rfl rfl
 exact ⟨_,h1,h2,h3,hput⟩
omit [Kn] in
theorem set_at {bs:List Box} {k:Nat} {x:Box} (h:Box.at bs k=x):bs.set k x=bs:=by
 subst h
 apply List.ext_getElem?
 intro j
 rw [List.getElem?_set]
 split
 ·rename_i e
  subst e
  split
  ·rename_i hl;simp [Box.at,List.getD_eq_getElem?_getD,List.getElem?_eq_getElem hl]
  ·rename_i hl;rw [List.getElem?_eq_none (by omega)]
 ·rfl
theorem slice2_sound {c:Cfg} (hc:CfgTy c P) (hm:Mem g bs w) {t:TypeId} {i:TI} (hti:c.ti t=some i) {x r:AV} {u:Value} {e:Eff} {lo hi:Option AV} {vl vh:Option Value} {id:Nat} (hx:Rd g w x u)
  (hlo:match lo,vl with | none,none=>True | some x,some v=>Rd g w x v | _,_=>False) (hhi:match hi,vh with | none,none=>True | some x,some v=>Rd g w x v | _,_=>False)
  (h:slice2A c i.desc x lo hi bs=some (r,e)) {bs':List Box} (he:e.on bs id=some bs'):
  OpOk ((do pure (Next.value (←Instr.sliceAt t u vl vh none)):Sem Next).run P w) g w bs' r:=by
 obtain ⟨info,hi'⟩:=ty_is (hc.ty t i hti)
 have scaled: ∀{j:TI} {sz l h:Nat} {es:List AV},(sz=j.size∨es= [])→l≤h→h≤es.length→l*j.size=l*sz:=fun hs h1 h2=>by
  rcases hs with rfl | rfl
  ·rfl
  ·have:_=0:=Nat.le_zero.1 (Nat.le_trans h1 (by simpa using h2))
   rw [this];simp
 unfold slice2A at h
 split at h
 ·rename_i s hdesc
  split at h
  ·rename_i hb hhb
   cases hlb:boundA lo 0 hb with
   | none=>rw [hlb] at h;cases h
   | some l=>
    rw [hlb] at h;cases h;cases he
    obtain rfl:=hx.str_inv
    have hsz:(ByteArray.mk s.toArray).size=s.length:=by show s.toArray.size=_;simp
    obtain ⟨h1,_,_⟩:=bounds_run (P:=P) false hlo hhi hhb hlb (Nat.le_refl s.length)
    refine .pure (v:= .string ⟨((s.take hb).drop l).toArray⟩) ?_ hm (.str _)
    simp [Instr.sliceAt,Instr.slice,run_underlying (hdesc▸hi'.und),hsz,h1,str_slice]
  ·cases h
 ·rename_i el nl sz es hdesc
  split at h
  ·rename_i hsi
   obtain ⟨j,jinfo,hj,hszj⟩:=sizeIs_spec hc hsi
   split at h
   ·rename_i hb hhb
    cases hlb:boundA lo 0 hb with
    | none=>rw [hlb] at h;cases h
    | some l=>
     rw [hlb] at h;cases h;cases he
     obtain ⟨a,cap,rfl,hel,hnl,hS⟩:=hx.lst_at
     obtain ⟨h1,h2,h3⟩:=bounds_run (P:=P) true hlo hhi hhb hlb hel.cap
     refine .pure (v:= .slice (if cap=l then a else a.map (·.add (l*sz))) (hb-l) (cap-l)) ?_ hm (sub_lst nl hel hnl hS h2 h3)
     simp [Instr.sliceAt,Instr.slice,run_underlying (hdesc▸hi'.und),h1,sizeOf,typeInfo,hj.info,hj.size,scaled hszj h2 h3]
   ·cases h
  ·cases h
 ·rename_i el k n hdesc
  split at h
  ·rename_i sh sz es hbx
   split at h
   ·rename_i hn
    obtain ⟨j,jinfo,hj,hszj⟩:=sizeIs_spec hc hn.2
    split at h
    ·rename_i hb hhb
     cases hlb:boundA lo 0 hb with
     | none=>rw [hlb] at h;cases h
     | some l=>
      rw [hlb] at h
      simp only [Option.map_some] at h
      cases hcut:c.cut with
      | true=>
       rw [hcut] at h
       simp only at h
       obtain ⟨a,cap,rfl,hel,loc,hge,hr,hl⟩:=hx.osl_at hm hbx hn.1
       obtain ⟨h1,h2,h3⟩:=bounds_run (P:=P) true hlo hhi hhb hlb hel.cap
       have hrun:(do pure (Next.value (←Instr.sliceAt t (.slice a es.length cap) vl vh none)):Sem Next).run P w= .ok (.value (.slice (if cap=l then a else a.map (·.add (l*sz))) (hb-l) (cap-l))) w:=by
        simp [Instr.sliceAt,Instr.slice,run_underlying (hdesc▸hi'.und),h1,sizeOf,typeInfo,hj.info,hj.size,scaled hszj h2 h3]
       split at h
       ·rename_i hlh
        obtain ⟨rfl,rfl⟩:=hlh
        cases h;cases he
        refine .pure hrun hm ?_
        have:Value.slice (if cap=0 then a else a.map (·.add (0*sz))) (hb-0) (cap-0)= .slice a es.length cap:=by
         rw [Nat.sub_zero,Nat.sub_zero,hn.1]
         congr 1
         split
         ·rfl
         ·cases a with
          | none=>rfl
          | some a=>simp [Addr.add]
        rw [this]
        exact hx
       ·rename_i hlh
        cases h;cases he
        rcases hl with ⟨b,rfl,rfl⟩ | ⟨rfl,rfl,rfl,rfl⟩
        ·refine .pure hrun hm (.osv k n l hb n sz _ _ (by split <;> rfl) hge (Nat.le_refl _) (fun _=>⟨b,cap,if cap=l then ⟨b,0,none⟩ else ⟨b,l*sz,none⟩,rfl,?_,?_⟩))
         ·congr 1
          split
          ·rfl
          ·simp [addr_add]
         ·split
          ·exact .inr (by assumption)
          ·exact .inl rfl
        ·simp only [List.length_nil] at h3 hn
         exact absurd ⟨by omega,by omega⟩ hlh
      | false=>
      rw [hcut] at h
      simp only at h
      have hbs:bs.set k (.sl ⟨true,sh.ty,none⟩ sz es)=bs'∧r= .lst none sz ((es.take hb).drop l):=by
       obtain ⟨o,ty,lk⟩:=sh
       cases o with
       | false=>
        cases h;cases he
        exact ⟨rfl,rfl⟩
       | true=>
        cases lk with
        | some x=>
         cases h;cases he
         exact ⟨rfl,rfl⟩
        | none=>
         cases h;cases he
         exact ⟨set_at hbx,rfl⟩
      obtain ⟨rfl,rfl⟩:=hbs
      obtain ⟨a,cap,rfl,hel,loc,hge,hr,hl⟩:=hx.osl_at hm hbx hn.1
      obtain ⟨g',m',l',f',hsame,hS'⟩:=share_box hm hbx
      obtain ⟨h1,h2,h3⟩:=bounds_run (P:=P) true hlo hhi hhb hlb hel.cap
      have hel':ElemsAt g' w sz es a cap:=⟨fun hne=>by
        obtain ⟨b,off,ha,hcs⟩:=hel.at_ hne
        exact ⟨b,off,ha,fun i e he j x hx=>let ⟨v,hv,rv,ov⟩:=hcs i e he j x hx;⟨v,hv,rv.mono l',ov⟩⟩,hel.ok,hel.nil,hel.cap⟩
      refine ⟨_,.slice (if cap=l then a else a.map (·.add (l*sz))) (hb-l) (cap-l),w,g',?_,.inl rfl,m',l',f',sub_lst none hel' (fun x h=>by cases h) ?_ h2 h3⟩
      ·simp [Instr.sliceAt,Instr.slice,run_underlying (hdesc▸hi'.und),h1,sizeOf,typeInfo,hj.info,hj.size,scaled hszj h2 h3]
      ·intro b off hab i' j' e' x' he' hx'
       have hne:es≠ []:=by intro h0;rw [h0] at he';cases he'
       rcases hl with ⟨b',rfl,rfl⟩ | ⟨_,h0,_⟩
       ·simp only [Option.some.injEq,Addr.mk.injEq,and_true] at hab
        obtain ⟨rfl,rfl⟩:=hab
        refine hS' _ _ _ hge _ ?_
        have hlt:=getElem?_lt he'
        have hlt':=getElem?_lt hx'
        rw [(hel.ok _ _ he').2] at hlt'
        have:(i'+1)*sz≤es.length*sz:=Nat.mul_le_mul_right _ hlt
        rw [Nat.add_mul] at this
        omega
       ·exact absurd h0 hne
    ·cases h
   ·cases h
  ·cases h
 ·rename_i el k n lo' hi2 hdesc
  split at h
  ·rename_i sh sz es hbx
   split at h
   ·rename_i hn
    obtain ⟨hn,hlh,hh,hsi⟩:=hn
    obtain ⟨j,jinfo,hj,hszj⟩:=sizeIs_spec hc hsi
    split at h
    ·rename_i hb hhb
     cases hlb:boundA lo 0 hb with
     | none=>rw [hlb] at h;cases h
     | some l=>
      rw [hlb] at h;cases h;cases he
      obtain ⟨b,cap,a,rfl,ha,hge,hr,hel⟩:=hx.osv_at hm hbx hn
      have hcap:=hel.cap
      obtain ⟨h1,h2,h3⟩:=bounds_run (P:=P) true hlo hhi hhb hlb (show hi2-lo'≤cap-lo' by omega)
      refine .pure (v:= .slice (if cap-lo'=l then some a else some (a.add (l*sz))) (hb-l) (cap-lo'-l)) ?_ hm (.osv k n _ _ n sz _ _ (by split <;> rfl) hge (Nat.le_refl _) (fun _=>⟨b,cap,if cap-lo'=l then a else a.add (l*sz),rfl,?_,?_⟩))
      ·have hsc:l*j.size=l*sz:=by
        rcases hszj with rfl | h0
        ·rfl
        ·subst h0
         simp only [List.length_nil] at hn
         have:l=0:=by omega
         rw [this];simp
       simp [Instr.sliceAt,Instr.slice,run_underlying (hdesc▸hi'.und),h1,sizeOf,typeInfo,hj.info,hj.size,hsc]
      ·have e1:lo'+hb-(lo'+l)=hb-l:=by omega
       have e2:cap-(lo'+l)=cap-lo'-l:=by omega
       rw [e1,e2]
       split <;> rfl
      ·rcases ha with rfl | ha
       ·split
        ·rename_i hcl
         exact .inr (by omega)
        ·rw [addr_add,←Nat.add_mul];exact .inl rfl
       ·exact .inr (by omega)
    ·cases h
   ·cases h
  ·cases h
 ·cases h
theorem zero_run {x:Option AV} {v:Option Value} (hx:match x,v with | none,none=>True | some x,some v=>Rd g w x v | _,_=>False) (h:isZero x=true): ∃k,v=some (.int k 0):=by
 unfold isZero at h
 split at h
 ·cases v with
  | none=>exact hx.elim
  | some z=>obtain rfl:=Rd.int_inv hx;simp only [beq_iff_eq] at h;subst h;exact ⟨_,rfl⟩
 ·cases h
 ·cases h
theorem slice3_sound {c:Cfg} (hc:CfgTy c P) (hm:Mem g bs w) {t:TypeId} {i:TI} (hti:c.ti t=some i) {x r:AV} {u:Value} {e:Eff} {lo hi mx:Option AV} {vl vh vm:Option Value} (hx:Rd g w x u)
  (hlo:match lo,vl with | none,none=>True | some x,some v=>Rd g w x v | _,_=>False) (hhi:match hi,vh with | none,none=>True | some x,some v=>Rd g w x v | _,_=>False)
  (hmx:match mx,vm with | none,none=>True | some x,some v=>Rd g w x v | _,_=>False)
  (h:slice3A c i.desc x lo hi mx bs=some (r,e)):e= .none∧OpOk ((do pure (Next.value (←Instr.sliceAt t u vl vh vm)):Sem Next).run P w) g w bs r:=by
 obtain ⟨info,hi'⟩:=ty_is (hc.ty t i hti)
 unfold slice3A at h
 split at h
 ·rename_i el hdesc
  split at h
  ·rename_i p j hel hj
   obtain ⟨jinfo,hj'⟩:=ty_is (hc.ty el j hj)
   split at h
   ·rename_i hz
    cases h
    simp only [Bool.and_eq_true,Bool.or_eq_true,Option.isNone_iff_eq_none] at hz
    obtain ⟨⟨hz1,hz2⟩,hz3⟩:=hz
    obtain ⟨kh,rfl⟩:=zero_run hhi hz2
    obtain ⟨km,rfl⟩:=zero_run hmx hz3
    obtain ⟨sz,es⟩:=p
    obtain ⟨a,cap,rfl,_⟩:=elems_at hm hx hel
    refine ⟨rfl,.pure (v:= .slice a 0 0) ?_ hm (.cap0 none a (fun _ h=>by cases h))⟩
    have hl:vl=none∨ ∃k,vl=some (.int k 0):=by
     rcases hz1 with rfl | hz1
     ·cases vl with
      | none=>exact .inl rfl
      | some _=>exact hlo.elim
     ·exact .inr (zero_run hlo hz1)
    rcases hl with rfl | ⟨kl,rfl⟩ <;>
     simp [Instr.sliceAt,Instr.slice,run_underlying (hdesc▸hi'.und),Instr.sliceBounds,Instr.sliceBound,asIntOf,sizeOf,typeInfo,hj'.info]
   ·cases h
  ·cases h
 ·cases h
end
end Go.Am
