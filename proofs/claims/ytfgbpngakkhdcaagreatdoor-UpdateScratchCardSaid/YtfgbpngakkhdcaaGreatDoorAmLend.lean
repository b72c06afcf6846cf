/- Slices of one's own that are lent, or handed out, by value; slices that are built of .. -/
import Derived.Test.YtfgbpngakkhdcaaGreatDoorAmOps5
open List renaming any_cons->acp,any_eq_true->acq,getD_eq_getElem?_getD->aaE,length_map->abp
open Nat renaming le_refl->aa0
set_option linter.all false
namespace Go.Am
variable [Kn]
section
variable {P:Program} {g:Gh} {bs:List ad} {w:World}
def leadsTo (k:Nat):AV->Bool
 | .ax j _=>j==k
 | .gn j _ _ _=>j==k
 | _=>false
def Wo (g:Gh) (bs:List ad) (args:List AV) (b o:Nat):Prop:= ∃k sh sz es,args.any (leadsTo k)=true∧ad.at bs k= .sl sh sz es∧(g.e k).bw=some b∧o<es.length*sz
def Gh.cS (g:Gh) (bs:List ad) (args:List AV):Gh:={S:=fun b o=>g.S b o∨Wo g bs args b o,e:=fun _=> .no}
theorem wF (hm:Mem g bs w) (args:List AV):Mem (g.cS bs args) [] w:=by
 refine ⟨fun k _=>rfl,fun k ty cs hk=>by simp [ad.at] at hk,fun k sh sz es hk=>by simp [ad.at] at hk,fun k st hk=>by simp [ad.at] at hk,fun k es clock hk=>by simp [ad.at] at hk,fun k hk=>by simp [ad.at] at hk,fun k o hk=>by simp [ad.at] at hk,fun k l b hk=>by simp [Gh.cS,GE.bw] at hk,fun b o hb=>⟨?_,fun k hk=>by simp [Gh.cS,GE.bw] at hk⟩,fun p hp=>⟨(hm.kn p hp).1,fun k hk=>by simp [Gh.cS,GE.bw] at hk⟩⟩;rcases hb with hb | ⟨k,sh,sz,es,_,_,hblk,_⟩
 ·exact (hm.cR b o hb).1
 ·exact hm.cC hblk
theorem oj {bs:List ad}: ∀{xs l:List AV},dC bs xs=some l->l.length=xs.length
 | [],l,h=>by cases h;rfl
 | x::xs,l,h=>by
  simp only [dC] at h;split at h
  ·rename_i a r _ hr;cases h;simp [oj hr]
  ·cases h
theorem KI (hm:Mem g bs w) {args:List AV} {k n:Nat} {v:Value} (hx:Rd g w (.ax k n) v) (hin:AV.ax k n∈args) {sh:Hd} {sz:Nat} {es:List AV} (hb:ad.at bs k= .sl sh sz es) (hn:n=es.length):Rd (g.cS bs args) w (.ag none sz es) v:=by
 obtain ⟨a,cap,rfl,hel,loc,hge,hr,hl⟩:=hx.jN hm hb hn
 have hel':df (g.cS bs args) w sz es a cap:=⟨fun hne=>by
  obtain ⟨b,off,ha,hcs⟩:=hel.at_ hne;refine ⟨b,off,ha,fun i e he j x hx=> ?_⟩;obtain ⟨v,hv,rv,ov⟩:=hcs i e he j x hx;refine ⟨v,hv,rv.aI (g':=g.cS bs args) (fun _ _ hs=>Or.inl hs) (fun _ _ _=>rfl) ?_,ov⟩;have hp:=(hel.ok i e he).1
  cases e <;> simp only [AV.cells] at hx <;> first
   | (simp only [AV.plain] at hp;exact bM hp hx)
   | (cases j with
      | zero => simp at hx; rw [<- hx]; exact hp
      | succ j => simp at hx), hel.ok, hel.nil, hel.cap⟩
 have:=rD (h:=es.length) (l:=0) none hel' (fun x h=>by cases h) (fun b off hab i j e x he hxx=>by
  have hne:es≠ []:=by intro h0;rw [h0] at he;cases he
  rcases hl with ⟨b',rfl,rfl⟩ | ⟨_,h0,_⟩
  ·simp only [Option.some.injEq,Addr.mk.injEq,and_true] at hab;obtain ⟨rfl,rfl⟩:=hab;refine .inr ⟨k,sh,sz,es,acq.2 ⟨_,hin,by simp [leadsTo]⟩,hb,by rw [hge];rfl,?_⟩;have hlt:=ah he;have hlt':=ah hxx;rw [(hel.ok _ _ he).2] at hlt';have:(i+1)*sz<=es.length*sz:=Nat.mul_le_mul_right _ hlt;rw [Nat.add_mul] at this;omega
  ·exact absurd h0 hne) (Nat.zero_le _) (aa0 _)
 simp only [List.drop_zero,List.take_length,Nat.zero_mul,Nat.sub_zero] at this
 have ha:(if cap=0 then a else a.map (·.add 0))=a:=by
  split
  ·rfl
  ·cases a with
   | none=>rfl
   | some a=>simp [Addr.add]
 rw [ha] at this;exact this
theorem KJ (hm:Mem g bs w) {args:List AV} {k n lo hi:Nat} {v:Value} (hx:Rd g w (.gn k n lo hi) v) (hin:AV.gn k n lo hi∈args) {sh:Hd} {sz:Nat} {es:List AV} (hb:ad.at bs k= .sl sh sz es) (hn:n=es.length) (hlh:lo<=hi) (hh:hi<=n):Rd (g.cS bs args) w (.ag none sz ((es.take hi).drop lo)) v:=by
 obtain ⟨b,cap,a,rfl,ha,hge,hr,hel⟩:=hx.qm hm hb hn
 have hel':df (g.cS bs args) w sz es (some ⟨b,0,none⟩) cap:=⟨fun hne=>by
  obtain ⟨b,off,ha,hcs⟩:=hel.at_ hne;refine ⟨b,off,ha,fun i e he j x hx=> ?_⟩;obtain ⟨v,hv,rv,ov⟩:=hcs i e he j x hx;refine ⟨v,hv,rv.aI (g':=g.cS bs args) (fun _ _ hs=>Or.inl hs) (fun _ _ _=>rfl) ?_,ov⟩;have hp:=(hel.ok i e he).1
  cases e <;> simp only [AV.cells] at hx <;> first
   | (simp only [AV.plain] at hp;exact bM hp hx)
   | (cases j with
      | zero => simp at hx; rw [<- hx]; exact hp
      | succ j => simp at hx), hel.ok, hel.nil, hel.cap⟩
 exact Cj hel' (fun o ho=> .inr ⟨k,sh,sz,es,acq.2 ⟨_,hin,by simp [leadsTo]⟩,hb,by rw [hge];rfl,ho⟩) ha hlh (by omega)
mutual
theorem AF (hm:Mem g bs w) {args:List AV}: ∀{x y:AV} {v:Value},Rd g w x v->(∀z∈x.leaves,z∈args)->e9 bs x=some y->y.plain=true->Rd (g.cS bs args) w y v
 | .ax k n,y,v,hx,hin,h,hp=>by
  simp only [e9] at h;split at h
  ·rename_i sh sz es hb;split at h
   ·rename_i hn;cases h;exact KI hm hx (hin _ (by simp [AV.leaves])) hb hn
   ·cases h
  ·cases h
 | .gn k n lo hi,y,v,hx,hin,h,hp=>by
  simp only [e9] at h;split at h
  ·rename_i sh sz es hb;split at h
   ·rename_i hn;cases h;exact KJ hm hx (hin _ (by simp [AV.leaves])) hb hn.1 hn.2.1 hn.2.2
   ·cases h
  ·cases h
 | .agg cs,y,v,hx,hin,h,hp=>by
  simp only [e9] at h;simp only [AV.leaves] at hin;split at h
  ·cases h;exact hx.aI (g':=g.cS bs args) (fun _ _ hs=>Or.inl hs) (fun _ _ _=>rfl) hp
  ·rename_i hpl;rw [hpl] at hin;cases hl:dC bs cs with
   | none=>rw [hl] at h;cases h
   | some l=>
    rw [hl] at h;cases h;cases hx with
    | agg _ vs hsz hc=>
     have hlen:=oj hl;refine .agg l vs (by rw [hsz,hlen]) fun i c u hi hu=> ?_
     have hi':i<cs.length:=by have:=ah hi;omega
     exact oo hm (fun i c u hi hu=>hc i c u hi hu) hin hl (by simpa only [AV.plain] using hp) i c u hi hu
 | .any,y,v,hx,_,h,hp=>by cases h;exact hx.aI (g':=g.cS bs args) (fun _ _ hs=>Or.inl hs) (fun _ _ _=>rfl) hp
 | .kc,y,v,hx,_,h,hp=>by cases h;exact hx.aI (g':=g.cS bs args) (fun _ _ hs=>Or.inl hs) (fun _ _ _=>rfl) hp
 | .int _ _,y,v,hx,_,h,hp=>by cases h;exact hx.aI (g':=g.cS bs args) (fun _ _ hs=>Or.inl hs) (fun _ _ _=>rfl) hp
 | .bool _,y,v,hx,_,h,hp=>by cases h;exact hx.aI (g':=g.cS bs args) (fun _ _ hs=>Or.inl hs) (fun _ _ _=>rfl) hp
 | .str _,y,v,hx,_,h,hp=>by cases h;exact hx.aI (g':=g.cS bs args) (fun _ _ hs=>Or.inl hs) (fun _ _ _=>rfl) hp
 | .aL _,y,v,hx,_,h,hp=>by cases h;exact hx.aI (g':=g.cS bs args) (fun _ _ hs=>Or.inl hs) (fun _ _ _=>rfl) hp
 | .bZ,y,v,hx,_,h,hp=>by cases h;exact hx.aI (g':=g.cS bs args) (fun _ _ hs=>Or.inl hs) (fun _ _ _=>rfl) hp
 | .ptr _ _,y,v,hx,_,h,hp=>by cases h;exact hx.aI (g':=g.cS bs args) (fun _ _ hs=>Or.inl hs) (fun _ _ _=>rfl) hp
 | .cM _ _ _ _,y,v,hx,_,h,hp=>by cases h;exact hx.aI (g':=g.cS bs args) (fun _ _ hs=>Or.inl hs) (fun _ _ _=>rfl) hp
 | .dj _,y,v,hx,_,h,hp=>by cases h;exact hx.aI (g':=g.cS bs args) (fun _ _ hs=>Or.inl hs) (fun _ _ _=>rfl) hp
 | .ag _ _ _,y,v,hx,_,h,hp=>by cases h;exact hx.aI (g':=g.cS bs args) (fun _ _ hs=>Or.inl hs) (fun _ _ _=>rfl) hp
 | .cv _,y,v,hx,_,h,hp=>by cases h;exact hx.aI (g':=g.cS bs args) (fun _ _ hs=>Or.inl hs) (fun _ _ _=>rfl) hp
 | .fn _ _ _,y,v,hx,_,h,hp=>by cases h;exact hx.aI (g':=g.cS bs args) (fun _ _ hs=>Or.inl hs) (fun _ _ _=>rfl) hp
 | .eG,y,v,hx,_,h,hp=>by cases h;exact hx.aI (g':=g.cS bs args) (fun _ _ hs=>Or.inl hs) (fun _ _ _=>rfl) hp
 | .ja,y,v,hx,_,h,hp=>by cases h;exact hx.aI (g':=g.cS bs args) (fun _ _ hs=>Or.inl hs) (fun _ _ _=>rfl) hp
 | .lE _,y,v,hx,_,h,hp=>by cases h;exact hx.aI (g':=g.cS bs args) (fun _ _ hs=>Or.inl hs) (fun _ _ _=>rfl) hp
 | .bT _,y,v,hx,_,h,hp=>by cases h;exact hx.aI (g':=g.cS bs args) (fun _ _ hs=>Or.inl hs) (fun _ _ _=>rfl) hp
 | .gR _,y,v,hx,_,h,hp=>by cases h;exact hx.aI (g':=g.cS bs args) (fun _ _ hs=>Or.inl hs) (fun _ _ _=>rfl) hp
 | .ma _ _ _,y,v,hx,_,h,hp=>by cases h;exact hx.aI (g':=g.cS bs args) (fun _ _ hs=>Or.inl hs) (fun _ _ _=>rfl) hp
 | .gm _ _ _,y,v,hx,_,h,hp=>by cases h;exact hx.aI (g':=g.cS bs args) (fun _ _ hs=>Or.inl hs) (fun _ _ _=>rfl) hp
theorem oo (hm:Mem g bs w) {args:List AV}: ∀{xs l:List AV} {vs:Array Value},(∀(i:Nat) (c:AV) (u:Value),xs[i]?=some c->vs[i]?=some u->Rd g w c u)->(∀z∈aU xs,z∈args)->dC bs xs=some l->ai l=true->
  ∀(i:Nat) (c:AV) (u:Value),l[i]?=some c->vs[i]?=some u->Rd (g.cS bs args) w c u
 | [],l,vs,_,_,hl,_,i,c,u,hi,_=>by cases hl;simp at hi
 | x::xs,l,⟨vs⟩,hx,hin,hl,hp,i,c,u,hi,hu=>by
  simp only [dC] at hl;simp only [aU] at hin;split at hl
  ·rename_i a r ha hr;cases hl;simp only [ai,Bool.and_eq_true] at hp;cases i with
   | zero=>simp only [List.getElem?_cons_zero,Option.some.injEq] at hi;subst hi;exact AF hm (hx 0 x u rfl hu) (fun z hz=>hin z (List.mem_append_left _ hz)) ha hp.1
   | succ i=>
    simp only [List.getElem?_cons_succ] at hi;cases vs with
    | nil=>simp at hu
    | cons v0 vs=>refine oo (vs:=⟨vs⟩) hm (fun j c u hj hu=>hx (j+1) c u (by simpa using hj) (by simpa using hu)) (fun z hz=>hin z (List.mem_append_right _ hz)) hr hp.2 i c u hi (by simpa using hu)
  ·cases hl
end
theorem EX {args:List AV} (h:mv args=false): ∀k,args.any (leadsTo k)=false:=by
 induction args with
 | nil=>intro k;rfl
 | cons x r ih=>intro k;cases x <;> simp only [mv,Bool.true_eq_false] at h <;> (rw [acp,ih h k];rfl)
theorem nV (bs:List ad): ∀(args:List AV) (k:Nat),ad.at (aR bs args) k=match ad.at bs k with | .sl sh sz es=> .sl ⟨sh.out || args.any (leadsTo k),sh.ty,if args.any (leadsTo k)=true then none else sh.link⟩ sz es | b=>b:=by
 intro args
 induction args generalizing bs with
 | nil=>intro k;simp only [aR,List.any_nil,Bool.or_false];cases ad.at bs k <;> rfl
 | cons x r ih=>
  intro k
  have lead: ∀j,(∀bs:List ad,aR bs (x::r)=aR (match ad.at bs j with | .sl sh sz es=>bs.set j (.sl ⟨true,sh.ty,none⟩ sz es) | _=>bs) r)->leadsTo k x=(j==k)->ad.at (aR bs (x::r)) k=match ad.at bs k with | .sl sh sz es=> .sl ⟨sh.out || (x::r).any (leadsTo k),sh.ty,if (x::r).any (leadsTo k)=true then none else sh.link⟩ sz es | b=>b:=fun j h1 h2=>by
   simp only [h1,acp,h2];rw [ih];cases hj:ad.at bs j with
   | sl sh sz es=>
    have hlt:j<bs.length:=ff (by rw [hj];simp);simp only;rw [bC _ _ _ hlt];by_cases e:j=k
    ·subst e;rw [if_pos rfl,hj];simp
    ·rw [if_neg e];have:(j==k)=false:=by simpa using e
     simp [this]
   | loop st=>
    simp only;by_cases e:j=k
    ·subst e;rw [hj]
    ·have:(j==k)=false:=by simpa using e
     simp [this]
   | mp es clock=>
    simp only;by_cases e:j=k
    ·subst e;rw [hj]
    ·have:(j==k)=false:=by simpa using e
     simp [this]
   | var ty cs=>
    simp only;by_cases e:j=k
    ·subst e;rw [hj]
    ·have:(j==k)=false:=by simpa using e
     simp [this]
   | dead=>
    simp only;by_cases e:j=k
    ·subst e;rw [hj]
    ·have:(j==k)=false:=by simpa using e
     simp [this]
   | gone=>
    simp only;by_cases e:j=k
    ·subst e;rw [hj]
    ·have:(j==k)=false:=by simpa using e
     simp [this]
   | iter o=>
    simp only;by_cases e:j=k
    ·subst e;rw [hj]
    ·have:(j==k)=false:=by simpa using e
     simp [this]
  cases x with
  | ax j n=>exact lead j (fun _=>rfl) rfl
  | gn j n lo hi=>exact lead j (fun _=>rfl) rfl
  | _=>simp only [aR,acp,leadsTo,Bool.false_or];exact ih bs k
theorem Mem.after (hm:Mem g bs w) {w':World} {S':Nat->Nat->Prop} {sh':Nat->Bool} {bs':List ad} (hb: ∀k,ad.at bs' k=match ad.at bs k with | .sl sh sz es=> .sl ⟨sh.out || sh' k,sh.ty,if sh' k=true then none else sh.link⟩ sz es | b=>b)
  (hold: ∀b,b<w.heap.size->w'.heap[b]?=w.heap[b]?) (hS: ∀b o,g.S b o->S' b o)
  (hcov: ∀k sh sz es b o,sh' k=true->ad.at bs k= .sl sh sz es->(g.e k).bw=some b->o<es.length*sz->S' b o)
  (hS': ∀b o,S' b o->b<w'.heap.size∧(b<w.heap.size->g.S b o∨ ∃k sh sz es,sh' k=true∧ad.at bs k= .sl sh sz es∧(g.e k).bw=some b∧o<es.length*sz)):
  Mem {S:=S',e:=g.e} bs' w'∧Le g w {S:=S',e:=g.e} w':=by
 have hl:Le g w {S:=S',e:=g.e} w':=⟨hS,fun b o hs=>bS (hold b (hm.cR b o hs).1) o,fun k=> .same _⟩;refine ⟨⟨fun k hk=> ?_,fun k ty cs hk=> ?_,fun k sh sz es hk=> ?_,fun k st hk=> ?_,fun k es clock hk=> ?_,fun k hk=> ?_,fun k o hk=> ?_,hm.inj,fun b o hs=> ?_,hm.A4 hold (fun k b hb=> .inl hb)⟩,hl⟩
 ·rw [hb] at hk;cases hbk:ad.at bs k with
  | dead=>exact hm.no k hbk
  | gone=>rw [hbk] at hk;cases hk
  | iter o=>rw [hbk] at hk;cases hk
  | var ty cs=>rw [hbk] at hk;cases hk
  | sl sh sz es=>rw [hbk] at hk;cases hk
  | loop st=>rw [hbk] at hk;cases hk
  | mp es clock=>rw [hbk] at hk;cases hk
 ·rw [hb] at hk;cases hbk:ad.at bs k with
  | dead=>rw [hbk] at hk;cases hk
  | sl sh sz es=>rw [hbk] at hk;cases hk
  | loop st=>rw [hbk] at hk;cases hk
  | mp es clock=>rw [hbk] at hk;cases hk
  | gone=>rw [hbk] at hk;cases hk
  | iter o=>rw [hbk] at hk;cases hk
  | var ty' cs'=>rw [hbk] at hk;cases hk;obtain ⟨b,hge,hr⟩:=hm.var k _ _ hbk;exact ⟨b,hge,hr.mono hl (hold b (hm.cC (k:=k) (by rw [hge];rfl)))⟩
 ·rw [hb] at hk;cases hbk:ad.at bs k with
  | dead=>rw [hbk] at hk;cases hk
  | var ty cs=>rw [hbk] at hk;cases hk
  | loop st=>rw [hbk] at hk;cases hk
  | mp es clock=>rw [hbk] at hk;cases hk
  | gone=>rw [hbk] at hk;cases hk
  | iter o=>rw [hbk] at hk;cases hk
  | sl sh0 sz0 es0=>
   rw [hbk] at hk;simp only [ad.sl.injEq] at hk;obtain ⟨h1,rfl,rfl⟩:=hk;obtain ⟨loc,hge,hr⟩:=hm.sl k sh0 sz0 es0 hbk;refine ⟨loc,hge,hr.1,?_⟩;have hm':=hr.mono hl (fun p hp=>hold p.1 (hm.cC (k:=k) (by rw [hge,hp];rfl)));cases loc with
   | none=>exact hr.2
   | some p=>
    obtain ⟨b,cap⟩:=p;obtain ⟨c,ty,fz,q1,q2,q3,q4,q5,q6,q7⟩:=hm'.2;refine ⟨c,ty,fz,q1,q2,q3,fun t ht=> ?_,q5,fun hs o ho=> ?_,fun i j k' n hk v hv hi=> ?_⟩
    ·rw [<-h1] at ht⊢;refine ⟨(q4 t ht).1,fun o ho=>(q4 t ht).2 o (Nat.le_trans ?_ ho)⟩;cases sh0.out <;> simp
    rw [<-h1,Bool.or_eq_true] at hs;rcases hs with hs | hs
    ·exact q6 hs o ho
    ·exact hcov k sh0 sz0 es0 b o hs hbk (by rw [hge];rfl) ho
    rw [<-h1] at hk;simp only at hk;split at hk
    ·cases hk
    ·exact q7 i j k' n hk v hv hi
 ·rw [hb] at hk;cases hbk:ad.at bs k with
  | dead=>rw [hbk] at hk;cases hk
  | var ty cs=>rw [hbk] at hk;cases hk
  | sl sh sz es=>rw [hbk] at hk;cases hk
  | mp es clock=>rw [hbk] at hk;cases hk
  | gone=>rw [hbk] at hk;cases hk
  | iter o=>rw [hbk] at hk;cases hk
  | loop st'=>rw [hbk] at hk;cases hk;obtain ⟨b,r,hge,hr⟩:=hm.loop k _ hbk;exact ⟨b,r,hge,(hold b (hm.cC (k:=k) (by rw [hge];rfl))).trans hr⟩
 ·rw [hb] at hk;cases hbk:ad.at bs k with
  | dead=>rw [hbk] at hk;cases hk
  | var ty cs=>rw [hbk] at hk;cases hk
  | sl sh sz es=>rw [hbk] at hk;cases hk
  | loop st=>rw [hbk] at hk;cases hk
  | gone=>rw [hbk] at hk;cases hk
  | iter o=>rw [hbk] at hk;cases hk
  | mp es' clock'=>rw [hbk] at hk;cases hk;obtain ⟨b,hge,hr⟩:=hm.mp k _ _ hbk;exact ⟨b,hge,hr.mono hl (hold b (hm.cC (k:=k) (by rw [hge];rfl)))⟩
 ·rw [hb] at hk;cases hbk:ad.at bs k with
  | gone=>exact hm.gone k hbk
  | _=>rw [hbk] at hk;cases hk
 ·rw [hb] at hk;cases hbk:ad.at bs k with
  | iter o'=>rw [hbk] at hk;cases hk;obtain ⟨b,hge,hr⟩:=hm.it k _ hbk;exact ⟨b,hge,hr.le hl (hold b (hm.cC (k:=k) (by rw [hge];rfl)))⟩
  | _=>rw [hbk] at hk;cases hk
 ·obtain ⟨h1,h2⟩:=hS' b o hs;refine ⟨h1,fun k hk=> ?_⟩;rcases h2 (hm.cC hk) with h3 | ⟨k',sh,sz,es,h3,h4,h5,h6⟩
  ·obtain ⟨ty,sz,es,h4,h5⟩:=(hm.cR b o h3).2 k hk;exact ⟨ty,sz,es,by rw [hb,h4];simp,h5⟩
  ·have:=hm.inj k k' b hk h5;subst this;exact ⟨sh.ty,sz,es,by rw [hb,h4,h3];simp,h6⟩
omit [Kn] in
theorem gF: ∀(args:List AV) (bs:List ad),(aR bs args).length=bs.length
 | [],_=>rfl
 | x::r,bs=>by
  cases x with
  | ax k n=>simp only [aR];rw [gF r];split <;> simp
  | gn k n lo hi=>simp only [aR];rw [gF r];split <;> simp
  | _=>simp only [aR];exact gF r bs
theorem Mem.share (hm:Mem g bs w) (args:List AV):Mem {S:=(g.cS bs args).S,e:=g.e} (aR bs args) w∧Le g w {S:=(g.cS bs args).S,e:=g.e} w∧Fr g w {S:=(g.cS bs args).S,e:=g.e} w:=by
 obtain ⟨m1,l1⟩:=hm.after (w':=w) (S':=(g.cS bs args).S) (sh':=fun k=>args.any (leadsTo k)) (bs':=aR bs args) (fun k=>nV bs args k) (fun _ _=>rfl) (fun b o h=> .inl h)
  (fun k sh sz es b o hk hb hblk ho=> .inr ⟨k,sh,sz,es,hk,hb,hblk,ho⟩)
  (fun b o hs=>by
   rcases hs with h1 | ⟨k,sh,sz,es,hin,h2,h3,h4⟩
   ·exact ⟨(hm.cR b o h1).1,fun _=> .inl h1⟩
   ·exact ⟨hm.cC h3,fun _=> .inr ⟨k,sh,sz,es,hin,h2,h3,h4⟩⟩)
 refine ⟨m1,l1,aa0 _,fun b hb hne=>⟨rfl,hne,fun o ho=> ?_⟩,rfl,rfl,rfl⟩;rcases ho with h1 | ⟨k,sh,sz,es,hin,h2,h3,h4⟩
 ·exact h1
 ·exact absurd h3 (hne k)
theorem Iq {ps:List (Nat×AV)} {qs:List (Nat×Value)} (h:dy g w ps qs):ps.map (·.1)=qs.map (·.1)∧ps.length=qs.length∧ ∀(i:Nat) (c:AV) (u:Value),(ps.map (·.2))[i]?=some c->((qs.map (·.2)).toArray)[i]?=some u->Rd g w c u:=by
 induction h with
 | nil=>exact ⟨rfl,rfl,fun i c u h=>by simp at h⟩
 | @cons p q ps qs h t ih=>
  obtain ⟨h1,h2,h3⟩:=ih;refine ⟨by simp [h.1,h1],by simp [h2],fun i c u hc hu=> ?_⟩;cases i with
  | zero=>simp at hc hu;subst hc;subst hu;exact h.2
  | succ i=>exact h3 i c u (by simpa using hc) (by simpa using hu)
theorem zk: ∀{ns:List Nat} {l:List AV} {qs:List (Nat×Value)},ns=qs.map (·.1)->l.length=qs.length->(∀(i:Nat) (c:AV) (u:Value),l[i]?=some c->((qs.map (·.2)).toArray)[i]?=some u->Rd g w c u)->dy g w (ns.zip l) qs
 | ns,l, [],h1,h2,h3=>by
  subst h1;exact .nil
 | ns, [],q::qs,h1,h2,h3=>by simp at h2
 | ns,x::l,q::qs,h1,h2,h3=>by
  subst h1;exact .cons ⟨rfl,h3 0 x q.2 rfl (by simp)⟩ (zk rfl (by simpa using h2) (fun i c u hc hu=>h3 (i+1) c u (by simpa using hc) (by simpa using hu)))
theorem Rd.dD {d:AV} {v:Value} (h:Rd g w d v):Rd g w d.dD v:=by
 cases d with
 | cv nl=>
  cases h with
  | cv _ a hnl=>exact .ag nl 0 [] a 0 0 0 (fun _ _=> .nilFunc) hnl (fun _=>⟨rfl,rfl⟩) (aa0 _) (fun h=>absurd rfl h) (fun i e h=>by cases h) (fun i j e x h=>by cases h) (fun i j e x h=>by cases h)
 | _=>exact h
theorem Rd.soft {d:AV} {v:Value} (h:Rd g w d v):Rd g w d.soft v:=by
 cases d with
 | agg cs=>obtain ⟨vs,rfl,hn,h'⟩:=h.ew;refine .agg _ _ (by rw [abp];exact hn) (fun i c v hc hv=> ?_);rw [List.getElem?_map,Option.map_eq_some_iff] at hc;obtain ⟨c0,hc0,rfl⟩:=hc;exact (h' i c0 v hc0 hv).dD
 | _=>exact h.dD
theorem xo: ∀{ps:List (Nat×AV)} {qs:List (Nat×Value)},dy g w ps qs->dy g w (ps.map fun p=>(p.1,p.2.soft)) qs
 | _,_,.nil=> .nil
 | _,_,.cons h t=> .cons ⟨h.1,h.2.soft⟩ (xo t)
theorem qI {c:av} (hc:bP c P) (hm:Mem g bs w) {t:TypeId} {len id:Nat} {ps:List (Nat×AV)} {qs:Array (Nat×Value)} {r:AV} {e:c9} (hps:dy g w ps qs.toList)
  (h:gB c (c.ti t) len ps id bs=some (r,e)) {bs':List ad} (he:e.on bs id=some bs'):
  cT ((do pure (Next.value (<-Instr.buildSlice t len qs)):Sem Next).run P w) g w bs' r:=by
 unfold gB at h;split at h
 ·exact lS hc hm hps h he
 ·split at h
  ·rename_i l hl hd;split at h
   ·rename_i v b hpl hb;cases h;cases he;obtain ⟨m1,l1,f1⟩:=hm.share (aU (ps.map (·.2)));obtain ⟨p1,p2,p3⟩:=Iq hps;have hrd:=oo hm (args:=aU (ps.map (·.2))) p3 (fun _ h=>h) hl hpl
    have hps':dy {S:=(g.cS bs (aU (ps.map (·.2)))).S,e:=g.e} w ((ps.map (·.1)).zip l) qs.toList:=
     zk p1 (by rw [oj hl,abp,p2]) (fun i c u hc hu=>Rd.aI (g:=g.cS bs (aU (ps.map (·.2)))) (g':={S:=(g.cS bs (aU (ps.map (·.2)))).S,e:=g.e}) (w:=w) (w':=w) (fun _ _ h=>h) (fun _ _ _=>rfl) (hrd i c u hc hu) (bM hpl hc))
    have hd':(aR bs (aU (ps.map (·.2))))[id]?=some .dead:=by
     have hid:=ah hd
     have h1:ad.at (aR bs (aU (ps.map (·.2)))) id= .dead:=by rw [nV];simp [ad.at,aaE,hd]
     have h2:id<(aR bs (aU (ps.map (·.2)))).length:=by rw [gF];exact hid
     simpa [ad.at,aaE,h2] using h1
    obtain ⟨nx,v,w',g',q1,q2,q3,q4,q5,q6⟩:=lS hc m1 hps' hb (bs':=(aR bs (aU (ps.map (·.2)))).set id b) (by simp only [c9.on,hd']);exact ⟨nx,v,w',g',q1,q2,q3,l1.trans q4,f1.trans q5,q6⟩
   ·cases h
  ·cases h
theorem sb {c:av} (hc:bP c P) (hm:Mem g bs w) {t:TypeId} {len id:Nat} {ps:List (Nat×AV)} {qs:Array (Nat×Value)} {r:AV} {e:c9} (hps:dy g w ps qs.toList)
  (h:fa c (c.ti t) len ps id bs=some (r,e)) {bs':List ad} (he:e.on bs id=some bs'):
  cT ((do pure (Next.value (<-Instr.buildSlice t len qs)):Sem Next).run P w) g w bs' r:=
 qI hc hm (xo hps) h he
end
end Go.Am
