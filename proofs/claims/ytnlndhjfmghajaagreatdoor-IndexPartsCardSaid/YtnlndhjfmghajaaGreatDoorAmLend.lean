/- Slices of one's own that are lent, or handed out, by value; slices that are built of .. -/
import Derived.Test.YtnlndhjfmghajaaGreatDoorAmOps5
set_option linter.all false
namespace Go.Am
variable [Kn]
section
variable {P:Program} {g:Gh} {bs:List Box} {w:World}
def leadsTo (k:Nat):AV→Bool
 | .osl j _=>j==k
 | .osv j _ _ _=>j==k
 | _=>false
def lentS (g:Gh) (bs:List Box) (args:List AV) (b o:Nat):Prop:= ∃k sh sz es,args.any (leadsTo k)=true∧Box.at bs k= .sl sh sz es∧(g.e k).blk=some b∧o<es.length*sz
def Gh.lent (g:Gh) (bs:List Box) (args:List AV):Gh:={S:=fun b o=>g.S b o∨lentS g bs args b o,e:=fun _=> .no}
theorem mem_lent (hm:Mem g bs w) (args:List AV):Mem (g.lent bs args) [] w:=by
 refine ⟨fun k _=>rfl,fun k ty cs hk=>by simp [Box.at] at hk,fun k sh sz es hk=>by simp [Box.at] at hk,fun k st hk=>by simp [Box.at] at hk,fun k es clock hk=>by simp [Box.at] at hk,fun k hk=>by simp [Box.at] at hk,fun k o hk=>by simp [Box.at] at hk,fun k l b hk=>by simp [Gh.lent,GE.blk] at hk,fun b o hb=>⟨?_,fun k hk=>by simp [Gh.lent,GE.blk] at hk⟩,fun p hp=>⟨(hm.kn p hp).1,fun k hk=>by simp [Gh.lent,GE.blk] at hk⟩⟩
 rcases hb with hb | ⟨k,sh,sz,es,_,_,hblk,_⟩
 ·exact (hm.stab b o hb).1
 ·exact hm.blk_lt hblk
theorem lendAll_len {bs:List Box}: ∀{xs l:List AV},lendAll bs xs=some l→l.length=xs.length
 | [],l,h=>by cases h;rfl
 | x::xs,l,h=>by
  simp only [lendAll] at h
  split at h
  ·rename_i a r _ hr
   cases h
   simp [lendAll_len hr]
  ·cases h
theorem osl_lent (hm:Mem g bs w) {args:List AV} {k n:Nat} {v:Value} (hx:Rd g w (.osl k n) v) (hin:AV.osl k n∈args) {sh:Hd} {sz:Nat} {es:List AV} (hb:Box.at bs k= .sl sh sz es) (hn:n=es.length):Rd (g.lent bs args) w (.lst none sz es) v:=by
 obtain ⟨a,cap,rfl,hel,loc,hge,hr,hl⟩:=hx.osl_at hm hb hn
 have hel':ElemsAt (g.lent bs args) w sz es a cap:=⟨fun hne=>by
  obtain ⟨b,off,ha,hcs⟩:=hel.at_ hne
  refine ⟨b,off,ha,fun i e he j x hx=> ?_⟩
  obtain ⟨v,hv,rv,ov⟩:=hcs i e he j x hx
  refine ⟨v,hv,rv.of_plain (g':=g.lent bs args) (fun _ _ hs=>Or.inl hs) (fun _ _ _=>rfl) ?_,ov⟩
  have hp:=(hel.ok i e he).1
  cases e <;> simp only [AV.cells] at hx <;> first
   | (simp only [AV.plain] at hp;exact plainAll_get hp hx)
   | (cases j with
      | zero => simp at hx; rw [← hx]; exact hp
      | succ j => simp at hx), hel.ok, hel.nil, hel.cap⟩
 have:=sub_lst (h:=es.length) (l:=0) none hel' (fun x h=>by cases h) (fun b off hab i j e x he hxx=>by
  have hne:es≠ []:=by intro h0;rw [h0] at he;cases he
  rcases hl with ⟨b',rfl,rfl⟩ | ⟨_,h0,_⟩
  ·simp only [Option.some.injEq,Addr.mk.injEq,and_true] at hab
   obtain ⟨rfl,rfl⟩:=hab
   refine .inr ⟨k,sh,sz,es,List.any_eq_true.2 ⟨_,hin,by simp [leadsTo]⟩,hb,by rw [hge];rfl,?_⟩
   have hlt:=getElem?_lt he
   have hlt':=getElem?_lt hxx
   rw [(hel.ok _ _ he).2] at hlt'
   have:(i+1)*sz≤es.length*sz:=Nat.mul_le_mul_right _ hlt
   rw [Nat.add_mul] at this
   omega
  ·exact absurd h0 hne) (Nat.zero_le _) (Nat.le_refl _)
 simp only [List.drop_zero,List.take_length,Nat.zero_mul,Nat.sub_zero] at this
 have ha:(if cap=0 then a else a.map (·.add 0))=a:=by
  split
  ·rfl
  ·cases a with
   | none=>rfl
   | some a=>simp [Addr.add]
 rw [ha] at this
 exact this
theorem osv_lent (hm:Mem g bs w) {args:List AV} {k n lo hi:Nat} {v:Value} (hx:Rd g w (.osv k n lo hi) v) (hin:AV.osv k n lo hi∈args) {sh:Hd} {sz:Nat} {es:List AV} (hb:Box.at bs k= .sl sh sz es) (hn:n=es.length) (hlh:lo≤hi) (hh:hi≤n):Rd (g.lent bs args) w (.lst none sz ((es.take hi).drop lo)) v:=by
 obtain ⟨b,cap,a,rfl,ha,hge,hr,hel⟩:=hx.osv_at hm hb hn
 have hel':ElemsAt (g.lent bs args) w sz es (some ⟨b,0,none⟩) cap:=⟨fun hne=>by
  obtain ⟨b,off,ha,hcs⟩:=hel.at_ hne
  refine ⟨b,off,ha,fun i e he j x hx=> ?_⟩
  obtain ⟨v,hv,rv,ov⟩:=hcs i e he j x hx
  refine ⟨v,hv,rv.of_plain (g':=g.lent bs args) (fun _ _ hs=>Or.inl hs) (fun _ _ _=>rfl) ?_,ov⟩
  have hp:=(hel.ok i e he).1
  cases e <;> simp only [AV.cells] at hx <;> first
   | (simp only [AV.plain] at hp;exact plainAll_get hp hx)
   | (cases j with
      | zero => simp at hx; rw [← hx]; exact hp
      | succ j => simp at hx), hel.ok, hel.nil, hel.cap⟩
 exact part_lst hel' (fun o ho=> .inr ⟨k,sh,sz,es,List.any_eq_true.2 ⟨_,hin,by simp [leadsTo]⟩,hb,by rw [hge];rfl,ho⟩) ha hlh (by omega)
mutual
theorem lend_rd (hm:Mem g bs w) {args:List AV}: ∀{x y:AV} {v:Value},Rd g w x v→(∀z∈x.leaves,z∈args)→lend bs x=some y→y.plain=true→Rd (g.lent bs args) w y v
 | .osl k n,y,v,hx,hin,h,hp=>by
  simp only [lend] at h
  split at h
  ·rename_i sh sz es hb
   split at h
   ·rename_i hn
    cases h
    exact osl_lent hm hx (hin _ (by simp [AV.leaves])) hb hn
   ·cases h
  ·cases h
 | .osv k n lo hi,y,v,hx,hin,h,hp=>by
  simp only [lend] at h
  split at h
  ·rename_i sh sz es hb
   split at h
   ·rename_i hn
    cases h
    exact osv_lent hm hx (hin _ (by simp [AV.leaves])) hb hn.1 hn.2.1 hn.2.2
   ·cases h
  ·cases h
 | .agg cs,y,v,hx,hin,h,hp=>by
  simp only [lend] at h
  simp only [AV.leaves] at hin
  split at h
  ·cases h
   exact hx.of_plain (g':=g.lent bs args) (fun _ _ hs=>Or.inl hs) (fun _ _ _=>rfl) hp
  ·rename_i hpl
   rw [hpl] at hin
   cases hl:lendAll bs cs with
   | none=>rw [hl] at h;cases h
   | some l=>
    rw [hl] at h;cases h
    cases hx with
    | agg _ vs hsz hc=>
     have hlen:=lendAll_len hl
     refine .agg l vs (by rw [hsz,hlen]) fun i c u hi hu=> ?_
     have hi':i<cs.length:=by
      have:=getElem?_lt hi
      omega
     exact lendAll_rd' hm (fun i c u hi hu=>hc i c u hi hu) hin hl (by simpa only [AV.plain] using hp) i c u hi hu
 | .any,y,v,hx,_,h,hp=>by cases h;exact hx.of_plain (g':=g.lent bs args) (fun _ _ hs=>Or.inl hs) (fun _ _ _=>rfl) hp
 | .unk,y,v,hx,_,h,hp=>by cases h;exact hx.of_plain (g':=g.lent bs args) (fun _ _ hs=>Or.inl hs) (fun _ _ _=>rfl) hp
 | .int _ _,y,v,hx,_,h,hp=>by cases h;exact hx.of_plain (g':=g.lent bs args) (fun _ _ hs=>Or.inl hs) (fun _ _ _=>rfl) hp
 | .bool _,y,v,hx,_,h,hp=>by cases h;exact hx.of_plain (g':=g.lent bs args) (fun _ _ hs=>Or.inl hs) (fun _ _ _=>rfl) hp
 | .str _,y,v,hx,_,h,hp=>by cases h;exact hx.of_plain (g':=g.lent bs args) (fun _ _ hs=>Or.inl hs) (fun _ _ _=>rfl) hp
 | .tup _,y,v,hx,_,h,hp=>by cases h;exact hx.of_plain (g':=g.lent bs args) (fun _ _ hs=>Or.inl hs) (fun _ _ _=>rfl) hp
 | .nilp,y,v,hx,_,h,hp=>by cases h;exact hx.of_plain (g':=g.lent bs args) (fun _ _ hs=>Or.inl hs) (fun _ _ _=>rfl) hp
 | .ptr _ _,y,v,hx,_,h,hp=>by cases h;exact hx.of_plain (g':=g.lent bs args) (fun _ _ hs=>Or.inl hs) (fun _ _ _=>rfl) hp
 | .sptr _ _ _ _,y,v,hx,_,h,hp=>by cases h;exact hx.of_plain (g':=g.lent bs args) (fun _ _ hs=>Or.inl hs) (fun _ _ _=>rfl) hp
 | .eptr _,y,v,hx,_,h,hp=>by cases h;exact hx.of_plain (g':=g.lent bs args) (fun _ _ hs=>Or.inl hs) (fun _ _ _=>rfl) hp
 | .lst _ _ _,y,v,hx,_,h,hp=>by cases h;exact hx.of_plain (g':=g.lent bs args) (fun _ _ hs=>Or.inl hs) (fun _ _ _=>rfl) hp
 | .cap0 _,y,v,hx,_,h,hp=>by cases h;exact hx.of_plain (g':=g.lent bs args) (fun _ _ hs=>Or.inl hs) (fun _ _ _=>rfl) hp
 | .fn _ _ _,y,v,hx,_,h,hp=>by cases h;exact hx.of_plain (g':=g.lent bs args) (fun _ _ hs=>Or.inl hs) (fun _ _ _=>rfl) hp
 | .nilf,y,v,hx,_,h,hp=>by cases h;exact hx.of_plain (g':=g.lent bs args) (fun _ _ hs=>Or.inl hs) (fun _ _ _=>rfl) hp
 | .nilm,y,v,hx,_,h,hp=>by cases h;exact hx.of_plain (g':=g.lent bs args) (fun _ _ hs=>Or.inl hs) (fun _ _ _=>rfl) hp
 | .itv _,y,v,hx,_,h,hp=>by cases h;exact hx.of_plain (g':=g.lent bs args) (fun _ _ hs=>Or.inl hs) (fun _ _ _=>rfl) hp
 | .mapv _,y,v,hx,_,h,hp=>by cases h;exact hx.of_plain (g':=g.lent bs args) (fun _ _ hs=>Or.inl hs) (fun _ _ _=>rfl) hp
 | .ifc _,y,v,hx,_,h,hp=>by cases h;exact hx.of_plain (g':=g.lent bs args) (fun _ _ hs=>Or.inl hs) (fun _ _ _=>rfl) hp
 | .ifi _ _ _,y,v,hx,_,h,hp=>by cases h;exact hx.of_plain (g':=g.lent bs args) (fun _ _ hs=>Or.inl hs) (fun _ _ _=>rfl) hp
 | .yld _ _ _,y,v,hx,_,h,hp=>by cases h;exact hx.of_plain (g':=g.lent bs args) (fun _ _ hs=>Or.inl hs) (fun _ _ _=>rfl) hp
theorem lendAll_rd' (hm:Mem g bs w) {args:List AV}: ∀{xs l:List AV} {vs:Array Value},(∀(i:Nat) (c:AV) (u:Value),xs[i]?=some c→vs[i]?=some u→Rd g w c u)→(∀z∈leavesAll xs,z∈args)→lendAll bs xs=some l→plainAll l=true→
  ∀(i:Nat) (c:AV) (u:Value),l[i]?=some c→vs[i]?=some u→Rd (g.lent bs args) w c u
 | [],l,vs,_,_,hl,_,i,c,u,hi,_=>by cases hl;simp at hi
 | x::xs,l,⟨vs⟩,hx,hin,hl,hp,i,c,u,hi,hu=>by
  simp only [lendAll] at hl
  simp only [leavesAll] at hin
  split at hl
  ·rename_i a r ha hr
   cases hl
   simp only [plainAll,Bool.and_eq_true] at hp
   cases i with
   | zero=>
    simp only [List.getElem?_cons_zero,Option.some.injEq] at hi
    subst hi
    exact lend_rd hm (hx 0 x u rfl hu) (fun z hz=>hin z (List.mem_append_left _ hz)) ha hp.1
   | succ i=>
    simp only [List.getElem?_cons_succ] at hi
    cases vs with
    | nil=>simp at hu
    | cons v0 vs=>
     refine lendAll_rd' (vs:=⟨vs⟩) hm (fun j c u hj hu=>hx (j+1) c u (by simpa using hj) (by simpa using hu)) (fun z hz=>hin z (List.mem_append_right _ hz)) hr hp.2 i c u hi (by simpa using hu)
  ·cases hl
end
theorem hasOsl_not {args:List AV} (h:hasOsl args=false): ∀k,args.any (leadsTo k)=false:=by
 induction args with
 | nil=>intro k;rfl
 | cons x r ih=>
  intro k
  cases x <;> simp only [hasOsl,Bool.true_eq_false] at h <;> (rw [List.any_cons,ih h k];rfl)
theorem at_share (bs:List Box): ∀(args:List AV) (k:Nat),Box.at (shareAll bs args) k=match Box.at bs k with | .sl sh sz es=> .sl ⟨sh.out || args.any (leadsTo k),sh.ty,if args.any (leadsTo k)=true then none else sh.link⟩ sz es | b=>b:=by
 intro args
 induction args generalizing bs with
 | nil=>intro k;simp only [shareAll,List.any_nil,Bool.or_false];cases Box.at bs k <;> rfl
 | cons x r ih=>
  intro k
  have lead: ∀j,(∀bs:List Box,shareAll bs (x::r)=shareAll (match Box.at bs j with | .sl sh sz es=>bs.set j (.sl ⟨true,sh.ty,none⟩ sz es) | _=>bs) r)→leadsTo k x=(j==k)→Box.at (shareAll bs (x::r)) k=match Box.at bs k with | .sl sh sz es=> .sl ⟨sh.out || (x::r).any (leadsTo k),sh.ty,if (x::r).any (leadsTo k)=true then none else sh.link⟩ sz es | b=>b:=fun j h1 h2=>by
   simp only [h1,List.any_cons,h2]
   rw [ih]
   cases hj:Box.at bs j with
   | sl sh sz es=>
    have hlt:j<bs.length:=at_lt (by rw [hj];simp)
    simp only
    rw [at_set _ _ _ hlt]
    by_cases e:j=k
    ·subst e;rw [if_pos rfl,hj];simp
    ·rw [if_neg e]
     have:(j==k)=false:=by simpa using e
     simp [this]
   | loop st=>
    simp only
    by_cases e:j=k
    ·subst e;rw [hj]
    ·have:(j==k)=false:=by simpa using e
     simp [this]
   | mp es clock=>
    simp only
    by_cases e:j=k
    ·subst e;rw [hj]
    ·have:(j==k)=false:=by simpa using e
     simp [this]
   | var ty cs=>
    simp only
    by_cases e:j=k
    ·subst e;rw [hj]
    ·have:(j==k)=false:=by simpa using e
     simp [this]
   | dead=>
    simp only
    by_cases e:j=k
    ·subst e;rw [hj]
    ·have:(j==k)=false:=by simpa using e
     simp [this]
   | gone=>
    simp only
    by_cases e:j=k
    ·subst e;rw [hj]
    ·have:(j==k)=false:=by simpa using e
     simp [this]
   | iter o=>
    simp only
    by_cases e:j=k
    ·subst e;rw [hj]
    ·have:(j==k)=false:=by simpa using e
     simp [this]
  cases x with
  | osl j n=>exact lead j (fun _=>rfl) rfl
  | osv j n lo hi=>exact lead j (fun _=>rfl) rfl
  | _=>simp only [shareAll,List.any_cons,leadsTo,Bool.false_or];exact ih bs k
theorem Mem.after (hm:Mem g bs w) {w':World} {S':Nat→Nat→Prop} {sh':Nat→Bool} {bs':List Box} (hb: ∀k,Box.at bs' k=match Box.at bs k with | .sl sh sz es=> .sl ⟨sh.out || sh' k,sh.ty,if sh' k=true then none else sh.link⟩ sz es | b=>b)
  (hold: ∀b,b<w.heap.size→w'.heap[b]?=w.heap[b]?) (hS: ∀b o,g.S b o→S' b o)
  (hcov: ∀k sh sz es b o,sh' k=true→Box.at bs k= .sl sh sz es→(g.e k).blk=some b→o<es.length*sz→S' b o)
  (hS': ∀b o,S' b o→b<w'.heap.size∧(b<w.heap.size→g.S b o∨ ∃k sh sz es,sh' k=true∧Box.at bs k= .sl sh sz es∧(g.e k).blk=some b∧o<es.length*sz)):
  Mem {S:=S',e:=g.e} bs' w'∧Le g w {S:=S',e:=g.e} w':=by
 have hl:Le g w {S:=S',e:=g.e} w':=⟨hS,fun b o hs=>cell_of_block (hold b (hm.stab b o hs).1) o,fun k=> .same _⟩
 refine ⟨⟨fun k hk=> ?_,fun k ty cs hk=> ?_,fun k sh sz es hk=> ?_,fun k st hk=> ?_,fun k es clock hk=> ?_,fun k hk=> ?_,fun k o hk=> ?_,hm.inj,fun b o hs=> ?_,hm.knHold hold (fun k b hb=> .inl hb)⟩,hl⟩
 ·rw [hb] at hk
  cases hbk:Box.at bs k with
  | dead=>exact hm.no k hbk
  | gone=>rw [hbk] at hk;cases hk
  | iter o=>rw [hbk] at hk;cases hk
  | var ty cs=>rw [hbk] at hk;cases hk
  | sl sh sz es=>rw [hbk] at hk;cases hk
  | loop st=>rw [hbk] at hk;cases hk
  | mp es clock=>rw [hbk] at hk;cases hk
 ·rw [hb] at hk
  cases hbk:Box.at bs k with
  | dead=>rw [hbk] at hk;cases hk
  | sl sh sz es=>rw [hbk] at hk;cases hk
  | loop st=>rw [hbk] at hk;cases hk
  | mp es clock=>rw [hbk] at hk;cases hk
  | gone=>rw [hbk] at hk;cases hk
  | iter o=>rw [hbk] at hk;cases hk
  | var ty' cs'=>
   rw [hbk] at hk;cases hk
   obtain ⟨b,hge,hr⟩:=hm.var k _ _ hbk
   exact ⟨b,hge,hr.mono hl (hold b (hm.blk_lt (k:=k) (by rw [hge];rfl)))⟩
 ·rw [hb] at hk
  cases hbk:Box.at bs k with
  | dead=>rw [hbk] at hk;cases hk
  | var ty cs=>rw [hbk] at hk;cases hk
  | loop st=>rw [hbk] at hk;cases hk
  | mp es clock=>rw [hbk] at hk;cases hk
  | gone=>rw [hbk] at hk;cases hk
  | iter o=>rw [hbk] at hk;cases hk
  | sl sh0 sz0 es0=>
   rw [hbk] at hk
   simp only [Box.sl.injEq] at hk
   obtain ⟨h1,rfl,rfl⟩:=hk
   obtain ⟨loc,hge,hr⟩:=hm.sl k sh0 sz0 es0 hbk
   refine ⟨loc,hge,hr.1,?_⟩
   have hm':=hr.mono hl (fun p hp=>hold p.1 (hm.blk_lt (k:=k) (by rw [hge,hp];rfl)))
   cases loc with
   | none=>exact hr.2
   | some p=>
    obtain ⟨b,cap⟩:=p
    obtain ⟨c,ty,fz,q1,q2,q3,q4,q5,q6,q7⟩:=hm'.2
    refine ⟨c,ty,fz,q1,q2,q3,fun t ht=> ?_,q5,fun hs o ho=> ?_,fun i j k' n hk v hv hi=> ?_⟩
    ·rw [←h1] at ht⊢
     refine ⟨(q4 t ht).1,fun o ho=>(q4 t ht).2 o (Nat.le_trans ?_ ho)⟩
     cases sh0.out <;> simp
    rw [←h1,Bool.or_eq_true] at hs
    rcases hs with hs | hs
    ·exact q6 hs o ho
    ·exact hcov k sh0 sz0 es0 b o hs hbk (by rw [hge];rfl) ho
    rw [←h1] at hk
    simp only at hk
    split at hk
    ·cases hk
    ·exact q7 i j k' n hk v hv hi
 ·rw [hb] at hk
  cases hbk:Box.at bs k with
  | dead=>rw [hbk] at hk;cases hk
  | var ty cs=>rw [hbk] at hk;cases hk
  | sl sh sz es=>rw [hbk] at hk;cases hk
  | mp es clock=>rw [hbk] at hk;cases hk
  | gone=>rw [hbk] at hk;cases hk
  | iter o=>rw [hbk] at hk;cases hk
  | loop st'=>
   rw [hbk] at hk;cases hk
   obtain ⟨b,r,hge,hr⟩:=hm.loop k _ hbk
   exact ⟨b,r,hge,(hold b (hm.blk_lt (k:=k) (by rw [hge];rfl))).trans hr⟩
 ·rw [hb] at hk
  cases hbk:Box.at bs k with
  | dead=>rw [hbk] at hk;cases hk
  | var ty cs=>rw [hbk] at hk;cases hk
  | sl sh sz es=>rw [hbk] at hk;cases hk
  | loop st=>rw [hbk] at hk;cases hk
  | gone=>rw [hbk] at hk;cases hk
  | iter o=>rw [hbk] at hk;cases hk
  | mp es' clock'=>
   rw [hbk] at hk;cases hk
   obtain ⟨b,hge,hr⟩:=hm.mp k _ _ hbk
   exact ⟨b,hge,hr.mono hl (hold b (hm.blk_lt (k:=k) (by rw [hge];rfl)))⟩
 ·rw [hb] at hk
  cases hbk:Box.at bs k with
  | gone=>exact hm.gone k hbk
  | _=>rw [hbk] at hk;cases hk
 ·rw [hb] at hk
  cases hbk:Box.at bs k with
  | iter o'=>
   rw [hbk] at hk;cases hk
   obtain ⟨b,hge,hr⟩:=hm.it k _ hbk
   exact ⟨b,hge,hr.le hl (hold b (hm.blk_lt (k:=k) (by rw [hge];rfl)))⟩
  | _=>rw [hbk] at hk;cases hk
 ·obtain ⟨h1,h2⟩:=hS' b o hs
  refine ⟨h1,fun k hk=> ?_⟩
  rcases h2 (hm.blk_lt hk) with h3 | ⟨k',sh,sz,es,h3,h4,h5,h6⟩
  ·obtain ⟨ty,sz,es,h4,h5⟩:=(hm.stab b o h3).2 k hk
   exact ⟨ty,sz,es,by rw [hb,h4];simp,h5⟩
  ·have:=hm.inj k k' b hk h5
   subst this
   exact ⟨sh.ty,sz,es,by rw [hb,h4,h3];simp,h6⟩
omit [Kn] in
theorem share_length: ∀(args:List AV) (bs:List Box),(shareAll bs args).length=bs.length
 | [],_=>rfl
 | x::r,bs=>by
  cases x with
  | osl k n=>
   simp only [shareAll]
   rw [share_length r]
   split <;> simp
  | osv k n lo hi=>
   simp only [shareAll]
   rw [share_length r]
   split <;> simp
  | _=>simp only [shareAll];exact share_length r bs
theorem Mem.share (hm:Mem g bs w) (args:List AV):Mem {S:=(g.lent bs args).S,e:=g.e} (shareAll bs args) w∧Le g w {S:=(g.lent bs args).S,e:=g.e} w∧Fr g w {S:=(g.lent bs args).S,e:=g.e} w:=by
 obtain ⟨m1,l1⟩:=hm.after (w':=w) (S':=(g.lent bs args).S) (sh':=fun k=>args.any (leadsTo k)) (bs':=shareAll bs args) (fun k=>at_share bs args k) (fun _ _=>rfl) (fun b o h=> .inl h)
  (fun k sh sz es b o hk hb hblk ho=> .inr ⟨k,sh,sz,es,hk,hb,hblk,ho⟩)
  (fun b o hs=>by
   rcases hs with h1 | ⟨k,sh,sz,es,hin,h2,h3,h4⟩
   ·exact ⟨(hm.stab b o h1).1,fun _=> .inl h1⟩
   ·exact ⟨hm.blk_lt h3,fun _=> .inr ⟨k,sh,sz,es,hin,h2,h3,h4⟩⟩)
 refine ⟨m1,l1,Nat.le_refl _,fun b hb hne=>⟨rfl,hne,fun o ho=> ?_⟩,rfl,rfl,rfl⟩
 rcases ho with h1 | ⟨k,sh,sz,es,hin,h2,h3,h4⟩
 ·exact h1
 ·exact absurd h3 (hne k)
theorem parts_get {ps:List (Nat×AV)} {qs:List (Nat×Value)} (h:PartsRel g w ps qs):ps.map (·.1)=qs.map (·.1)∧ps.length=qs.length∧ ∀(i:Nat) (c:AV) (u:Value),(ps.map (·.2))[i]?=some c→((qs.map (·.2)).toArray)[i]?=some u→Rd g w c u:=by
 induction h with
 | nil=>exact ⟨rfl,rfl,fun i c u h=>by simp at h⟩
 | @cons p q ps qs h t ih=>
  obtain ⟨h1,h2,h3⟩:=ih
  refine ⟨by simp [h.1,h1],by simp [h2],fun i c u hc hu=> ?_⟩
  cases i with
  | zero=>simp at hc hu;subst hc;subst hu;exact h.2
  | succ i=>exact h3 i c u (by simpa using hc) (by simpa using hu)
theorem parts_zip: ∀{ns:List Nat} {l:List AV} {qs:List (Nat×Value)},ns=qs.map (·.1)→l.length=qs.length→(∀(i:Nat) (c:AV) (u:Value),l[i]?=some c→((qs.map (·.2)).toArray)[i]?=some u→Rd g w c u)→PartsRel g w (ns.zip l) qs
 | ns,l, [],h1,h2,h3=>by
  subst h1
  exact .nil
 | ns, [],q::qs,h1,h2,h3=>by simp at h2
 | ns,x::l,q::qs,h1,h2,h3=>by
  subst h1
  exact .cons ⟨rfl,h3 0 x q.2 rfl (by simp)⟩ (parts_zip rfl (by simpa using h2) (fun i c u hc hu=>h3 (i+1) c u (by simpa using hc) (by simpa using hu)))
theorem Rd.soft1 {d:AV} {v:Value} (h:Rd g w d v):Rd g w d.soft1 v:=by
 cases d with
 | cap0 nl=>
  cases h with
  | cap0 _ a hnl=>exact .lst nl 0 [] a 0 0 0 (fun _ _=> .nilFunc) hnl (fun _=>⟨rfl,rfl⟩) (Nat.le_refl _) (fun h=>absurd rfl h) (fun i e h=>by cases h) (fun i j e x h=>by cases h) (fun i j e x h=>by cases h)
 | _=>exact h
theorem Rd.soft {d:AV} {v:Value} (h:Rd g w d v):Rd g w d.soft v:=by
 cases d with
 | agg cs=>
  obtain ⟨vs,rfl,hn,h'⟩:=h.agg_inv
  refine .agg _ _ (by rw [List.length_map];exact hn) (fun i c v hc hv=> ?_)
  rw [List.getElem?_map,Option.map_eq_some_iff] at hc
  obtain ⟨c0,hc0,rfl⟩:=hc
  exact (h' i c0 v hc0 hv).soft1
 | _=>exact h.soft1
theorem parts_soft: ∀{ps:List (Nat×AV)} {qs:List (Nat×Value)},PartsRel g w ps qs→PartsRel g w (ps.map fun p=>(p.1,p.2.soft)) qs
 | _,_,.nil=> .nil
 | _,_,.cons h t=> .cons ⟨h.1,h.2.soft⟩ (parts_soft t)
theorem buildSliceL0_sound {c:Cfg} (hc:CfgTy c P) (hm:Mem g bs w) {t:TypeId} {len id:Nat} {ps:List (Nat×AV)} {qs:Array (Nat×Value)} {r:AV} {e:Eff} (hps:PartsRel g w ps qs.toList)
  (h:buildSliceL0 c (c.ti t) len ps id bs=some (r,e)) {bs':List Box} (he:e.on bs id=some bs'):
  OpOk ((do pure (Next.value (←Instr.buildSlice t len qs)):Sem Next).run P w) g w bs' r:=by
 unfold buildSliceL0 at h
 split at h
 ·exact buildSlice_sound hc hm hps h he
 ·split at h
  ·rename_i l hl hd
   split at h
   ·rename_i v b hpl hb
    cases h;cases he
    obtain ⟨m1,l1,f1⟩:=hm.share (leavesAll (ps.map (·.2)))
    obtain ⟨p1,p2,p3⟩:=parts_get hps
    have hrd:=lendAll_rd' hm (args:=leavesAll (ps.map (·.2))) p3 (fun _ h=>h) hl hpl
    have hps':PartsRel {S:=(g.lent bs (leavesAll (ps.map (·.2)))).S,e:=g.e} w ((ps.map (·.1)).zip l) qs.toList:=
     parts_zip p1 (by rw [lendAll_len hl,List.length_map,p2]) (fun i c u hc hu=>Rd.of_plain (g:=g.lent bs (leavesAll (ps.map (·.2)))) (g':={S:=(g.lent bs (leavesAll (ps.map (·.2)))).S,e:=g.e}) (w:=w) (w':=w) (fun _ _ h=>h) (fun _ _ _=>rfl) (hrd i c u hc hu) (plainAll_get hpl hc))
    have hd':(shareAll bs (leavesAll (ps.map (·.2))))[id]?=some .dead:=by
     have hid:=getElem?_lt hd
     have h1:Box.at (shareAll bs (leavesAll (ps.map (·.2)))) id= .dead:=by
      rw [at_share]
      simp [Box.at,List.getD_eq_getElem?_getD,hd]
     have h2:id<(shareAll bs (leavesAll (ps.map (·.2)))).length:=by rw [share_length];exact hid
     simpa [Box.at,List.getD_eq_getElem?_getD,h2] using h1
    obtain ⟨nx,v,w',g',q1,q2,q3,q4,q5,q6⟩:=buildSlice_sound hc m1 hps' hb (bs':=(shareAll bs (leavesAll (ps.map (·.2)))).set id b) (by simp only [Eff.on,hd'])
    exact ⟨nx,v,w',g',q1,q2,q3,l1.trans q4,f1.trans q5,q6⟩
   ·cases h
  ·cases h
theorem buildSliceL_sound {c:Cfg} (hc:CfgTy c P) (hm:Mem g bs w) {t:TypeId} {len id:Nat} {ps:List (Nat×AV)} {qs:Array (Nat×Value)} {r:AV} {e:Eff} (hps:PartsRel g w ps qs.toList)
  (h:buildSliceL c (c.ti t) len ps id bs=some (r,e)) {bs':List Box} (he:e.on bs id=some bs'):
  OpOk ((do pure (Next.value (←Instr.buildSlice t len qs)):Sem Next).run P w) g w bs' r:=
 buildSliceL0_sound hc hm (parts_soft hps) h he
end
end Go.Am
