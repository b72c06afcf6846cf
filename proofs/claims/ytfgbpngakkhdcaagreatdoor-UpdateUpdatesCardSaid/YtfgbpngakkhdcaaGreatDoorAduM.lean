/- Maps with numbers as keys. -/
import Derived.Test.YtfgbpngakkhdcaaGreatDoorAdtM
import Derived.Test.YtfgbpngakkhdcaaGreatDoorAdsM
open Bool renaming false->ζ,true->Z
open Go.Am.AV renaming aK->ρ,ah->ι,bool->Y,int->M,ptr->π,str->P
open Go.Am.af renaming var->W
open Go.IntKind renaming i64->O
open Go.Lib renaming itoa->I,itoa_length_le->γ
open List renaming length->Ê,foldl_cons->R,getD_eq_getElem?_getD->w,getElem_mem->θ,length_append->ε,length_cons->κ,length_drop->ν,length_take->μ,map_cons->V,map_replicate->A,map_set->F,take_left'->ο
open Nat renaming le_refl->ξ,le_trans->η
open Option renaming none->S,some->Q
open _root_ renaming List->L,Nat->T,getElem?_neg->H,getElem?_pos->G,if_neg->U,if_pos->δ
set_option linter.all false
namespace Go.Proofs.YtfgbpngakkhdcaaGreatDoor
open Go.Am
set_option maxRecDepth 10000
set_option maxHeartbeats 4000000
section
variable {α:Type}
def eE (vf:α->AV) (e:Int×α×T):AV×AV×T:=(M O e.1,vf e.2.1,e.2.2)
def fP (u:Int):L (Int×α×T)->T->Option (T×Int×α×T)
 | [],_=>S
 | e::r,i=>if e.1=u then Q (i,e) else fP u r (i+1)
theorem jP (vf:α->AV) (u:Int): ∀(m:L (Int×α×T)) (i:T),la (bu cfg 20 3) (M O u) (m.map (eE vf)) i=Q ((fP u m i).map fun p=>(p.1,eE vf p.2))
 | [],i=>rfl
 | e::r,i=>by
  have ih:=jP vf u r (i+1);have he:bu cfg 20 3 (M O u) (eE vf e).1=Q (u==e.1):=by simp (config:={maxSteps:=1000000}) (disch:=omega) [-A,-F,-w,-G,-H,wrap_i64,p9,lg,lh,jM,eE]
  simp only [V,la,he,fP];by_cases hs:e.1=u
  ·simp [hs]
  ·have ĩ:(u==e.1)=false:=by simpa using fun h=>hs h.symm
   simp only [ĩ,U hs];exact ih
def bJ (m:L (Int×α×T)):L (Int×α):=m.map fun e=>(e.1,e.2.1)
theorem kq (u:Int): ∀(m:L (Int×α×T)) (i:T),(fP u m i).map (fun p=>p.2.2.1)=cL (bJ m) u
 | [],i=>rfl
 | e::r,i=>by
  have ih:=kq u r (i+1);simp only [fP,bJ,V,cL];by_cases hs:e.1=u
  ·simp [hs]
  ·rw [U hs,U hs];exact ih
theorem iH (u:Int): ∀(m:L (Int×α×T)) (i j:T) (e:Int×α×T),fP u m i=Q (j,e)->i<=j/\m[j-i]?=Q e/\e.1=u
 | [],i,j,e,h=>by cases h
 | x::r,i,j,e,h=>by
  simp only [fP] at h;split at h
  ·rename_i hs;cases h;exact ⟨ξ _,by simp,hs⟩
  ·obtain ⟨h1,h2,h3⟩:=iH u r (i+1) j e h;refine ⟨by omega,?_,h3⟩;rw [show j-i=(j-(i+1))+1 by omega];simpa using h2
def lT (m:L (Int×α×T)) (clock:T) (u:Int) (v:α):L (Int×α×T):=match fP u m 0 with
 | some (j,e)=>m.set j (u,v,e.2.2)
 | none=>m++ [(u,v,clock)]
def gV (m:L (Int×α×T)) (clock:T) (u:Int):T:=match fP u m 0 with
 | some _=>clock
 | none=>clock+1
theorem I1 (u:Int) (v:α): ∀(m:L (Int×α×T)) (i j:T) (e:Int×α×T),fP u m i=Q (j,e)->jx (bJ m) u v=bJ (m.set (j-i) (u,v,e.2.2))
 | [],i,j,e,h=>by cases h
 | x::r,i,j,e,h=>by
  simp only [fP] at h;split at h
  ·rename_i hs;cases h;simp [bJ,jx,hs]
  ·rename_i hs;obtain ⟨h1,_,_⟩:=iH u r (i+1) j e h;have ih:=I1 u v r (i+1) j e h;rw [show j-i=(j-(i+1))+1 by omega,List.set_cons_succ];simp only [bJ,V,jx,U hs] at ih⊢;rw [ih]
theorem DY (u:Int) (v:α) (c:T): ∀(m:L (Int×α×T)) (i:T),fP u m i=none->jx (bJ m) u v=bJ (m++ [(u,v,c)])
 | [],i,_=>rfl
 | x::r,i,h=>by
  simp only [fP] at h;split at h
  ·cases h
  ·rename_i hs;have ih:=DY u v c r (i+1) h;simp only [bJ,V,List.cons_append,jx,U hs] at ih⊢;rw [ih]
theorem eP (m:L (Int×α×T)) (clock:T) (u:Int) (v:α):bJ (lT m clock u v)=jx (bJ m) u v:=by
 unfold lT;cases h:fP u m 0 with
 | none=>exact (DY u v clock m 0 h).symm
 | some p=>obtain ⟨j,e⟩:=p;have:=I1 u v m 0 j e h;simp only [Nat.sub_zero] at this;exact this.symm
end
end Go.Proofs.YtfgbpngakkhdcaaGreatDoor
namespace Go.Proofs.YtfgbpngakkhdcaaGreatDoor
open Go.Am
set_option maxRecDepth 10000
set_option maxHeartbeats 4000000
theorem rF {α:Type} (u:Int) (v:α) (m:L (Int×α)):cL (jx m u v) u=Q v:=by rw [ga,δ rfl]
def G0 (m:L (Int×ae)) (u:Int):AV:=match cL m u with
 | some v=> ρ [P v,Y Z]
 | none=> ρ [P [],Y ζ]
def iA (n:Int):AV:= M O n
theorem PY {bs:L af} {k clock:T} {m:L (Int×ae×T)} (h:af.at bs k= .mp (m.map (eE P)) clock) (u:Int):cv cfg (cfg.ti 134) (.cg k) (M O u) Z bs=Q (G0 (bJ m) u,.none):=by
 have hf:=jP P u m 0;have hl:=kq u m 0;unfold G0;rw [<-hl];cases hq:fP u m 0 with
 | none=>rw [hq] at hf;simp [cv,dJ,jy,kr,bU,h,hf,-bu]
 | some p=>rw [hq] at hf;simp [cv,dJ,jy,kr,bU,h,hf,-bu,eE]
theorem PZ {bs:L af} {k clock:T} {m:L (Int×Int×T)} (h:af.at bs k= .mp (m.map (eE iA)) clock) (u:Int):cv cfg (cfg.ti 135) (.cg k) (M O u) ζ bs=Q (M O ((cL (bJ m) u).getD 0),.none):=by
 have hf:=jP iA u m 0;have hl:=kq u m 0;rw [<-hl];cases hq:fP u m 0 with
 | none=>rw [hq] at hf;simp [cv,dJ,jy,kr,bU,h,hf,-bu]
 | some p=>rw [hq] at hf;simp [cv,dJ,jy,kr,bU,h,hf,-bu,eE,iA]
theorem lq {α:Type} (vf:α->AV) (m:L (Int×α×T)) (j:T) (e:Int×α×T):(m.set j e).map (eE vf)=(m.map (eE vf)).set j (eE vf e):=by simp [F]
theorem T8 {bs:L af} {k clock:T} {m:L (Int×ae×T)} (h:af.at bs k= .mp (m.map (eE P)) clock) (u:Int) (v:ae):aH cfg (cfg.ti 134) (.cg k) (M O u) (P v) bs=Q (ρ [],.upd k (.mp ((lT m clock u v).map (eE P)) (gV m clock u))):=by
 have hf:=jP P u m 0;unfold lT gV;cases hq:fP u m 0 with
 | none=>rw [hq] at hf;simp [aH,bU,fY,fk,gE,h,hf,-bu,eE]
 | some p=>obtain ⟨j,e⟩:=p;obtain ⟨_,_,he⟩:=iH u m 0 j e hq;rw [hq] at hf;simp [aH,bU,fY,fk,gE,h,hf,-bu,eE,sameKey,gR,he,lq,-F]
theorem T9 {bs:L af} {k clock:T} {m:L (Int×Int×T)} (h:af.at bs k= .mp (m.map (eE iA)) clock) (u:Int) (v:Int):aH cfg (cfg.ti 135) (.cg k) (M O u) (M O v) bs=Q (ρ [],.upd k (.mp ((lT m clock u v).map (eE iA)) (gV m clock u))):=by
 have hf:=jP iA u m 0;unfold lT gV;cases hq:fP u m 0 with
 | none=>rw [hq] at hf;simp [aH,bU,fY,fk,gE,h,hf,-bu,eE,iA]
 | some p=>obtain ⟨j,e⟩:=p;obtain ⟨_,_,he⟩:=iH u m 0 j e hq;rw [hq] at hf;simp [aH,bU,fY,fk,gE,h,hf,-bu,eE,iA,sameKey,gR,he,lq,-F]
theorem Ua {C:L af} {n:T} (h:Ê C=n):(∀l,(C++l)[n]?=l[0]?)/\(∀l,(C++l)[n+1]?=l[1]?)/\(∀l,(C++l)[n+1+1]?=l[2]?)/\(∀l,(C++l)[n+1+1+1]?=l[3]?)
  /\(∀l X,(C++l).set n X=C++l.set 0 X)/\(∀l X,(C++l).set (n+1) X=C++l.set 1 X)/\(∀l X,(C++l).set (n+1+1) X=C++l.set 2 X)/\(∀l X,(C++l).set (n+1+1+1) X=C++l.set 3 X)
  /\(∀l,af.at (C++l) n=af.at l 0)/\(∀l,af.at (C++l) (n+1)=af.at l 1)/\(∀l,af.at (C++l) (n+1+1)=af.at l 2)/\(∀l,af.at (C++l) (n+1+1+1)=af.at l 3)/\(∀l,(C++l).take n=C):=by
 subst h
 exact ⟨fun l=>by simpa using eo C l 0,fun l=>eo C l 1,fun l=>eo C l 2,fun l=>eo C l 3,
  fun l X=>by simpa using dt C l 0 X,fun l X=>dt C l 1 X,fun l X=>dt C l 2 X,fun l X=>dt C l 3 X,
  fun l=>by simpa using eN C l 0,fun l=>eN C l 1,fun l=>eN C l 2,fun l=>eN C l 3,fun l=>ο rfl⟩
theorem I2 {C:L af} {n:T} (h:Ê C=n) (l:L af):(C++l).take (n+3)=C++l.take 3:=by subst h;rw [List.take_append,List.take_of_length_le (by omega)];simp
theorem Cj (n:T):c8 n∘eE AV.str=eE AV.str:=by funext e;simp [c8,eE,forget,AV.under]
theorem Ck (n:T):c8 n∘eE iA=eE iA:=by funext e;simp [c8,eE,iA,forget,AV.under]
theorem P0 (n:T) (m:L (Int×ae×T)):dA n (m.map (eE P))=true:=by
 induction m with
 | nil=>rfl
 | cons e r ih=>simp [dA,eE,AV.under] at ih⊢;try exact ih
theorem P1 (n:T) (m:L (Int×Int×T)):dA n (m.map (eE iA))=true:=by
 induction m with
 | nil=>rfl
 | cons e r ih=>simp [dA,eE,iA,AV.under] at ih⊢;try exact ih
theorem vC {σ:Type} (K:σ->L af) (ă:σ->Sh×ae->σ) (Inv:T->σ->Prop) (n0:T) (ċ: ∀st,(K st).length=n0) (ĕ: ∀st,shut n0 (K st)=Z)
  (f:FuncId) (Ī:DP f) (caps:L AV) (c:Ct) (hc:c.ok) (hlen:c.ai.length<=400)
  (ī: ∀n,n0<=n->aA n caps=Z) (Ė: ∀B,dO B caps=Q caps) (ė:ak caps=ζ)
  (hf: ∀i st s n J,i<c.ai.length->Inv i st->s∈c.ai->Ê n<10000->shut (n0+Ê J) J=true->ar cfg f (bw s:: P n::caps) (K st++J)=Q (ρ [],K (ă st (s,n))++J)/\Inv (i+1) (ă st (s,n)))
  (Ğ: ∀i st,Inv i st->Inv (i+1) st) (root:Int) (Ď:σ) (h0:Inv 0 Ď):
  ar cfg 50 [br c,M O root,.fn f [] caps] (K Ď)=Q (ρ [],K ((cK I root ⟨[], []⟩ c.ai).foldl ă Ď)):=by
 refine aa adx YN ?_;obtain ⟨n1,n2,n3,n4⟩:=Ī;simp only [exts,wL,L5,kg] at n1 n2 n3 n4;have hE:=sG bw c.ai;have ğ:=bW bw c.ai;have Ġ:=hc.sz;unfold br dm;generalize au c.ad=L1 at*
 generalize c.av.map dc=L2 at*
 generalize c.ai.map bw=L3 at*
 generalize c.sz=sz at*
 generalize c.ai=l at*
 have ď:=ċ Ď;have e1:n0+1-n0=1:=by omega
 have e2:n0+1+1-n0=2:=by omega
 have e3:n0+1+1+1-n0=3:=by omega
 obtain ⟨g0,g1,g2,g3,s0,s1,s2,s3,b0,b1,b2,b3,tk⟩:=Ua ď;simp (maxSteps:=9^9) (disch:=omega) [-A,-F,-w,-G,-H,om,YO,ab,ğ,ď,g0,g1,g2,g3,s0,s1,s2,s3,b0,b1,b2,b3,tk,gW,e1,e2,e3];clear g0 g1 g2 g3 s0 s1 s2 s3 b0 b1 b2 b3 tk ď
 refine Wp.az (fun (a:T×σ×(L (Int×ae×T)×T)×(L (Int×Int×T)×T))=>Ê l-a.1) (fun a=> [S,Q (M O root),Q (.fn f [] caps),S,Q (.cg (n0+1)),Q (.cg (n0+1+1)),S,S,S,S,S,S,S,Q (ι c.sn sz L3),Q (M O (Ê l)),Q (M O a.1),S,S,S,S,S,S,S,S,S,S,S,S])
  (fun a=>K a.2.1++ [W 26 [ι c.ln c.lz L1,ι c.bn c.bz L2,ι c.sn sz L3],.mp (a.2.2.1.1.map (eE P)) a.2.2.1.2,.mp (a.2.2.2.1.map (eE iA)) a.2.2.2.2])
  (fun a=>(cK I root ⟨[], []⟩ l).foldl ă Ď=(cK I root ⟨bJ a.2.2.1.1,bJ a.2.2.2.1⟩ (l.drop a.1)).foldl ă a.2.1/\a.1<=Ê l/\Inv a.1 a.2.1
   /\(∀u v,cL (bJ a.2.2.1.1) u=Q v->Ê v<=22*(a.1+1))/\(∀u,0<=(cL (bJ a.2.2.2.1) u).getD 0/\(cL (bJ a.2.2.2.1) u).getD 0<=a.1)) ?_ (0,Ď,([],0),([],0)) ⟨rfl,by omega,h0,by simp [bJ,cL],by simp [bJ,cL]⟩ (by simp) (by simp)
 rintro ⟨i,st,⟨m,cm⟩,⟨q,cq⟩⟩ ⟨hi,ġ,hI,hm,hq⟩;simp only at hi ġ hI hm hq⊢;have Ĉ:=ī (n0+3) (by omega);have Ħ:=ĕ st;have Ĭ:=shut_map (ξ _) Ħ;obtain ⟨g0,g1,g2,g3,s0,s1,s2,s3,b0,b1,b2,b3,tk⟩:=Ua (ċ st);by_cases h1:i<Ê l
 ·have Č:=ċ st;have ā: ∀(m:L (Int×ae×T)) cm b' l' u,cv cfg (cfg.ti 134) (.cg (n0+1)) (M O u) Z (K st++(b':: .mp (m.map (eE P)) cm::l'))=Q (G0 (bJ m) u,.none):=fun m cm b' l' u=>PY (by rw [b1];rfl) u;have Ă: ∀(m:L (Int×Int×T)) cm b' đ l' u,cv cfg (cfg.ti 135) (.cg (n0+1+1)) (M O u) ζ (K st++(b'::đ:: .mp (m.map (eE iA)) cm::l'))=Q (M O ((cL (bJ m) u).getD 0),.none):=fun m cm b' đ l' u=>PZ (by rw [b2];rfl) u;have Ć: ∀(m:L (Int×ae×T)) cm b' l' u v,aH cfg (cfg.ti 134) (.cg (n0+1)) (M O u) (P v) (K st++(b':: .mp (m.map (eE P)) cm::l'))=Q (ρ [],.upd (n0+1) (.mp ((lT m cm u v).map (eE P)) (gV m cm u))):=fun m cm b' l' u v=>T8 (by rw [b1];rfl) u v;have eQ: ∀(m:L (Int×Int×T)) cm b' đ l' u v,aH cfg (cfg.ti 135) (.cg (n0+1+1)) (M O u) (M O v) (K st++(b'::đ:: .mp (m.map (eE iA)) cm::l'))=Q (ρ [],.upd (n0+1+1) (.mp ((lT m cm u v).map (eE iA)) (gV m cm u))):=fun m cm b' đ l' u v=>T9 (by rw [b2];rfl) u v;simp only [Sm,Sn] at ā Ă Ć eQ;have hg:=hE i h1;have ĭ:l[i]∈l:=θ h1;have Ę:=fun n J hn hJ=>hf i st l[i] n J h1 hI ĭ hn hJ;obtain rfl:=Ġ (ne_of_lt h1);rw [List.drop_eq_getElem_cons h1] at hi;simp only [cK] at hi;clear hE hf;generalize l[i]=s at*
  unfold bw at hg Ę;have ę: ∀l,af.at (K st++l) (n0+3)=af.at l 3:=b3;have Ě: ∀l,(K st++l)[n0+3]?=l[3]?:=g3;have ě: ∀l X,(K st++l).set (n0+3) X=K st++l.set 3 X:=s3
  have hJ: ∀(m:L (Int×ae×T)) (cm:T) (q:L (Int×Int×T)) (cq:T),shut (n0+4) [W 26 [ι c.ln c.lz L1,ι c.bn c.bz L2,ι c.sn 6 L3],.mp (m.map (eE P)) cm,.mp (q.map (eE iA)) cq,W 74 [M O s.unit,M O s.par,M O s.level,P s.mark,P s.title,ι s.fn s.fz (s.facts.map dQ)]]=true:=fun m cm q cq=>by
   simp [shut,aA,AV.under,P0,P1]
  by_cases hr:s.unit=root
  ·subst hr;have hst:eF I s.unit ⟨bJ m,bJ q⟩ s=⟨jx (bJ m) s.unit [49],bJ q⟩:=by unfold eF;rw [δ rfl]
   rw [hst] at hi;have Đ:cL (jx (bJ m) s.unit [49]) s.unit=Q [49]:=rF _ _ _;rw [Đ] at hi;simp only [R] at hi;have Ą:G0 (jx (bJ m) s.unit [49]) s.unit= ρ [P [49],Y Z]:=by unfold G0;rw [Đ]
   obtain ⟨Ē,ē⟩:=Ę [49] [W 26 [ι c.ln c.lz L1,ι c.bn c.bz L2,ι c.sn 6 L3],.mp ((lT m cm s.unit [49]).map (eE P)) (gV m cm s.unit),.mp (q.map (eE iA)) cq,W 74 [M O s.unit,M O s.par,M O s.level,P s.mark,P s.title,ι s.fn s.fz (s.facts.map dQ)]] (by simp) (hJ _ _ _ _);have ĉ:=ċ (ă st (s, [49]));have č:=I2 ĉ;have ą:=shut_map (show n0<=n0+3 by omega) (ĕ (ă st (s, [49])));simp (maxSteps:=9^9) (disch:=omega) [-A,-F,-w,-G,-H,om,h1,hg,ab,Č,g0,g1,g2,g3,s0,s1,s2,s3,b0,b1,b2,b3,tk,e1,e2,e3,ā,Ă,Ć,eQ,n1,n2,n3,n4,Ė,ė,ę,Ě,ě,eP,Ą,Ē,ĉ,č,ą,Cj,Ck,Ĉ];refine ⟨i+1,ă st (s, [49]),lT m cm s.unit [49],gV m cm s.unit,q,⟨by rw [eP];exact hi,by omega,ē,?_,?_⟩,by omega,by omega,cq,rfl⟩
   ·intro u v hv;rw [eP,ga] at hv;split at hv
    ·cases hv;simp;omega
    ·have:=hm u v hv;omega
   ·intro u;have:=hq u;omega
  ·cases ć:cL (bJ m) s.par with
   | none=>
    have hst:eF I root ⟨bJ m,bJ q⟩ s=⟨bJ m,bJ q⟩:=by unfold eF;rw [U hr,ć]
    rw [hst] at hi;have Ĝ:G0 (bJ m) s.par= ρ [P [],Y ζ]:=by unfold G0;rw [ć]
    cases hun:cL (bJ m) s.unit with
    | none=>
     rw [hun] at hi;have Ą:G0 (bJ m) s.unit= ρ [P [],Y ζ]:=by unfold G0;rw [hun]
     have č:=I2 Č;have ą:=shut_map (show n0<=n0+3 by omega) Ħ;simp (maxSteps:=9^9) (disch:=omega) [-A,-F,-w,-G,-H,om,h1,hg,ab,Č,g0,g1,g2,g3,s0,s1,s2,s3,b0,b1,b2,b3,tk,e1,e2,e3,ā,Ă,Ć,eQ,n1,n2,n3,n4,Ė,ė,ę,Ě,ě,eP,Cj,Ck,Ĉ,hr,Ą,Ĝ,č,ą];refine ⟨i+1,st,m,cm,q,⟨hi,by omega,Ğ _ _ hI,fun u v hv=>by have:=hm u v hv;omega,fun u=>by have:=hq u;omega⟩,by omega,by omega,cq,rfl⟩
    | some n=>
     rw [hun] at hi;simp only [R] at hi;have Ą:G0 (bJ m) s.unit= ρ [P n,Y Z]:=by unfold G0;rw [hun]
     obtain ⟨Ē,ē⟩:=Ę n [W 26 [ι c.ln c.lz L1,ι c.bn c.bz L2,ι c.sn 6 L3],.mp (m.map (eE P)) cm,.mp (q.map (eE iA)) cq,W 74 [M O s.unit,M O s.par,M O s.level,P s.mark,P s.title,ι s.fn s.fz (s.facts.map dQ)]] (by have:=hm _ _ hun;omega) (hJ _ _ _ _);have ĉ:=ċ (ă st (s,n));have č:=I2 ĉ;have ą:=shut_map (show n0<=n0+3 by omega) (ĕ (ă st (s,n)));simp (maxSteps:=9^9) (disch:=omega) [-A,-F,-w,-G,-H,om,h1,hg,ab,Č,g0,g1,g2,g3,s0,s1,s2,s3,b0,b1,b2,b3,tk,e1,e2,e3,ā,Ă,Ć,eQ,n1,n2,n3,n4,Ė,ė,ę,Ě,ě,eP,Cj,Ck,Ĉ,hr,Ą,Ĝ,Ē,ĉ,č,ą];refine ⟨i+1,ă st (s,n),m,cm,q,⟨hi,by omega,ē,fun u v hv=>by have:=hm u v hv;omega,fun u=>by have:=hq u;omega⟩,by omega,by omega,cq,rfl⟩
   | some Ā=>
    have hxq:=hq s.par;generalize hx:(cL (bJ q) s.par).getD 0=x at*
    have hst:eF I root ⟨bJ m,bJ q⟩ s=⟨jx (bJ m) s.unit (Ā++46::I (x+1)),jx (bJ q) s.par (x+1)⟩:=by unfold eF;rw [U hr,ć];simp [hx]
    rw [hst] at hi;have hal:=hm _ _ ć;have hit:(I (x+1)).length<=21:=γ (x+1) (by omega) (by omega);have Ĝ:G0 (bJ m) s.par= ρ [P Ā,Y Z]:=by unfold G0;rw [ć]
    have hw:IntKind.i64.wrap (x+1)=x+1:=wrap_i64 (by omega) (by omega);have Į:(cL (jx (bJ q) s.par (x+1)) s.par).getD 0=x+1:=by rw [rF];rfl
    have Ģ: -9223372036854775808<=x+1:=by omega
    have ģ:x+1<=9223372036854775807:=by omega
    have Đ:cL (jx (bJ m) s.unit (Ā++46::I (x+1))) s.unit=Q (Ā++46::I (x+1)):=rF _ _ _;rw [Đ] at hi;simp only [R] at hi;have Ą:G0 (jx (bJ m) s.unit (Ā++46::I (x+1))) s.unit= ρ [P (Ā++46::I (x+1)),Y Z]:=by unfold G0;rw [Đ]
    generalize hit2:I (x+1)=it at*
    obtain ⟨Ē,ē⟩:=Ę (Ā++46::it) [W 26 [ι c.ln c.lz L1,ι c.bn c.bz L2,ι c.sn 6 L3],.mp ((lT m cm s.unit (Ā++46::it)).map (eE P)) (gV m cm s.unit),.mp ((lT q cq s.par (x+1)).map (eE iA)) (gV q cq s.par),W 74 [M O s.unit,M O s.par,M O s.level,P s.mark,P s.title,ι s.fn s.fz (s.facts.map dQ)]] (by simp;omega) (hJ _ _ _ _);have ĉ:=ċ (ă st (s,Ā++46::it));have č:=I2 ĉ;have ą:=shut_map (show n0<=n0+3 by omega) (ĕ (ă st (s,Ā++46::it)));clear Đ hst;simp (maxSteps:=9^9) (disch:=omega) [-A,-F,-w,-G,-H,om,h1,hg,ab,Č,g0,g1,g2,g3,s0,s1,s2,s3,b0,b1,b2,b3,tk,e1,e2,e3,ā,Ă,Ć,eQ,n1,n2,n3,n4,Ė,ė,ę,Ě,ě,eP,Cj,Ck,Ĉ,hr,Ą,Ĝ,hx,hw,Į,oL,Ģ,ģ,hit2,Ē,ĉ,č,ą];refine ⟨i+1,ă st (s,Ā++46::it),lT m cm s.unit (Ā++46::it),gV m cm s.unit,lT q cq s.par (x+1),⟨by rw [eP,eP];exact hi,by omega,ē,?_,?_⟩,by omega,by omega,gV q cq s.par,rfl⟩
    ·intro u v hv;rw [eP,ga] at hv;split at hv
     ·cases hv;simp;omega
     ·have:=hm u v hv;omega
    ·intro u;rw [eP,ga];split
     ·simp;omega
     ·have:=hq u;omega
 ·rw [List.drop_eq_nil_of_le (by omega)] at hi;rw [show (cK I root ⟨bJ m,bJ q⟩ []).foldl ă st=st from rfl] at hi;rw [hi];have Č:=ċ st;generalize K st=KS at*
  simp (maxSteps:=9^9) (disch:=omega) [-A,-F,-w,-G,-H,om,h1,tk,Ĭ,Č]
end Go.Proofs.YtfgbpngakkhdcaaGreatDoor
namespace Go.Proofs.YtfgbpngakkhdcaaGreatDoor
open Go.Am
set_option maxRecDepth 10000
set_option maxHeartbeats 4000000
theorem vD (u:Int): ∀(l:L (Sh×ae)) (st:ae),l.foldl (fun st x=>if x.1.unit=u then x.2 else st) st=fT u st l
 | [],_=>rfl
 | x::r,st=>by
  rw [R,vD u r,fT];split <;> rfl
def YP (c:Ct) (u:Int) (f:ae):L af:= [W 26 (dm c),W 3 [M O u],W 9 [P f]]
theorem P2 (c:Ct) (u:Int) (st:ae) (s:Sh) (n:ae) (J:L af) (hJ:shut (3+Ê J) J=Z):
  ar cfg 150 (bw s:: P n:: [π 1 0,π 2 0]) (YP c u st++J)=Q (ρ [],YP c u (if s.unit=u then n else st)++J):=by
 refine aa YQ Ub ?_;have ĝ:=shut_map (show 3+Ê J<=Ê J+1+1+1 by omega) hJ;unfold bw YP dm;generalize au c.ad=L1 at*
 generalize c.av.map dc=L2 at*
 generalize c.ai.map bw=L3 at*
 by_cases h:s.unit=u
 ·simp (maxSteps:=9^9) (disch:=omega) [-A,-F,-w,-G,-H,om,Mu,h,ab,ĝ]
 ·simp (maxSteps:=9^9) (disch:=omega) [-A,-F,-w,-G,-H,om,Mu,h,ab,ĝ]
theorem Al (c:Ct) (hc:c.ok) (root u:Int):
  ar cfg 101 [br c,M O root,M O u] []=Q (ρ (if dU c=0 then [P (de I c root u),Y (decide (de I c root u≠ []))] else [P [],Y ζ]), []):=by
 refine aa YR Uc ?_;have h1:=xx c hc;by_cases h:dU c=0
 ·rw [δ h];rw [h] at h1
  have h2:=vC (YP c u) (fun st x=>if x.1.unit=u then x.2 else st) (fun _ _=>True) 3 (fun st=>rfl) (fun st=>rfl) 150 ⟨rfl,rfl,rfl,rfl⟩ [π 1 0,π 2 0] c hc (η (cj h).G1 (by omega)) (fun n hn=>by simp [aA,AV.under];omega) (fun B=>rfl) rfl
   (fun i st s n J _ _ _ _ hJ=>⟨P2 c u st s n J hJ,trivial⟩) (fun _ _ _=>trivial) root [] trivial
  rw [vD] at h2;have h3:fT u [] (cK I root ⟨[], []⟩ c.ai)=de I c root u:=rfl;rw [h3] at h2;generalize de I c root u=N at*
  unfold YP br dm at*
  generalize au c.ad=L1 at*
  generalize c.av.map dc=L2 at*
  generalize c.ai.map bw=L3 at*
  simp (maxSteps:=9^9) (disch:=omega) [-A,-F,-w,-G,-H,om,Mv,h1,h2,ab];cases N <;> rfl
 ·rw [U h];unfold br dm at*
  generalize au c.ad=L1 at*
  generalize c.av.map dc=L2 at*
  generalize c.ai.map bw=L3 at*
  simp (maxSteps:=9^9) (disch:=omega) [-A,-F,-w,-G,-H,om,Mv,h1,h,ab]
end Go.Proofs.YtfgbpngakkhdcaaGreatDoor
namespace Go.Proofs.YtfgbpngakkhdcaaGreatDoor
open Go.Am
set_option maxRecDepth 10000
set_option maxHeartbeats 4000000
theorem ny {N:T} (order:L ae) (el:Int): ∀(l:L Lb) (t:ae) (b:Int),Ê t<=N->(∀x∈l,x.text.length<=N)->(gu order el t b l).length<=N
 | [],t,b,h,_=>h
 | x::r,t,b,h,hl=>by
  unfold gu;split
  ·exact ny order el r _ _ (hl x (by simp)) (fun y hy=>hl y (by simp [hy]))
  ·exact ny order el r _ _ h (fun y hy=>hl y (by simp [hy]))
theorem DZ {l:L Sh} (h: ∀s∈l,s.mark.length<=64/\s.title.length<=64) (u:Int):(cY l u).length<=1000:=by
 unfold cY;split
 ·simp
 ·split
  ·rename_i s hs;obtain ⟨h1,h2⟩:=h s (List.mem_of_getElem? hs);split
   ·omega
   ·simp;omega
  ·simp
theorem Cl (c:Ct) (hc:c.ok) (hk:iq c) (x:Sh) (hx:x∈c.ai) (num:ae) (į:Ê num<10000) (on:Option Bool) (order:L ae) (ho:order.length<1000000):
  ar cfg 52 [br c,bw x,P num,ι on 1 (au order)] []=Q (cH (kZ I order c (x,num)), []):=by
 have hs:=hk.ai x hx;refine GZ c hc (fun s hs=>by have:=hk.ai s hs;exact ⟨by have:=this.mark;omega,by have:=this.wO;omega⟩) (fun u=>DZ (fun s hs=>⟨(hk.ai s hs).mark,(hk.ai s hs).wO⟩) u) x num į (hc.sh x hx) ⟨hs.l1,hs.l2⟩ (by have:=hs.wO;omega) on order ho (fun el h0 h9=> ?_) (fun f hf=> ?_)
 ·refine η (ny (N:=64) order el c.av _ _ ?_ (fun y hy=>(hk.av y hy).len)) (by omega);have:=γ el h0 h9;simp [cX];omega
 ·have:=hs.facts f hf;exact ⟨by have:=this.len;omega,by have:=this.Cm;omega,by have:=this.GM;omega⟩
def WV (c:Ct) (root:Int) (lang:ae) (order:L ae) (l:L mv):L af:= [W 26 (dm c),W 49 [M O 0,P [],.aC 2 0],.sl ⟨ζ,Q 58,S⟩ 3 [],W 49 [M O root,P lang,.aC 5 (Ê l)],W 22 [ι S 1 (au order)],.sl ⟨ζ,Q 58,S⟩ 3 (l.map cH)]
theorem P3 (c:Ct) (hc:c.ok) (hk:iq c) (root:Int) (lang:ae) (order:L ae) (ho:order.length<1000000) (l:L mv) (hl:Ê l<1000) (s:Sh) (hs:s∈c.ai) (n:ae) (hn:Ê n<10000) (J:L af) (hJ:shut (6+Ê J) J=Z):
  ar cfg 51 (bw s:: P n:: [π 3 0,π 0 0,π 4 0]) (WV c root lang order l++J)=Q (ρ [],WV c root lang order (l++ [kZ I order c (s,n)])++J):=by
 refine aa ady YS ?_;have ĝ:=shut_map (show 6+Ê J<=Ê J+1+1+1+1+1+1 by omega) hJ;have Ĕ:=Cl c hc hk s hs n hn S order ho;have Ĥ:=bW cH l;have ħ: ∀x:mv,cH x= .agg [M O x.unit,P x.num,ι S 3 (x.nodes.map dF)]:=fun x=>rfl;generalize kZ I order c (s,n)=X at*
 have İ:(l++ [X]).map cH=l.map cH++ [.agg [M O X.unit,P X.num,ι S 3 (X.nodes.map dF)]]:=by simp [ħ]
 have ı:ak (X.nodes.map dF)=true:=df (fun _=>rfl) _;rw [ħ X] at Ĕ;unfold WV;rw [İ];unfold bw br dm at*
 generalize au c.ad=L1 at*
 generalize c.av.map dc=L2 at*
 generalize c.ai.map _=L3 at*
 generalize au order=OA at*
 generalize s.facts.map dQ=FA at*
 generalize X.nodes.map dF=XN at*
 generalize l.map cH=LA at*
 simp (maxSteps:=9^9) (disch:=omega) [-A,-F,-w,-G,-H,om,YT,Ĕ,ab,ĝ,Ĥ,ı]
theorem D1 (l:L ae) (s:ae):(aF l s).length<=Ê l+1:=by
 unfold aF;split
 ·simp only [κ,ε,μ,ν];omega
 ·simp
theorem An {α β:Type} (g:α->β): ∀(l:L α) (a:L β),l.foldl (fun a x=>a++ [g x]) a=a++l.map g
 | [],a=>by simp
 | x::r,a=>by rw [R,An g r];simp
def xE (root:Int) (lang:ae) (l:L mv):AV:= .agg [M O root,P lang,ι S 3 (l.map cH)]
def Kj:AV:= .agg [M O 0,P [],ι (Q Z) 0 []]
theorem rG (c:Ct) (hc:c.ok) (root:Int) (lang:ae):
  ar cfg 22 [br c,M O root,P lang] []=Q (ρ [if aW c root lang=0 then xE root lang (fp I c root lang) else Kj,M O (aW c root lang)], []):=by
 refine aa adz YU ?_;have h1:=xx c hc;have h2:=p8 c.ln c.lz c.ad hc.lz hc.ll lang;have h3:=wX c.sn c.sz c.ai hc.sz hc.sl root;by_cases hE:aW c root lang=0
 ·obtain ⟨ď,Ċ,i,hi⟩:=sM hE;have hk:=cj ď;have h4:=uz c hc lang Ċ;have Ĵ:(aF c.ad lang).length<1000000:=by have:=D1 c.ad lang;have:=hk.l2;omega
  have h5:=vC (WV c root lang (aF c.ad lang)) (fun l x=>l++ [kZ I (aF c.ad lang) c x]) (fun i l=>Ê l<=i) 6 (fun l=>rfl) (fun l=>by simp [WV,shut,aA,AV.under,dG,dm]) 51 ⟨rfl,rfl,rfl,rfl⟩ [π 3 0,π 0 0,π 4 0] c hc (η hk.G1 (by omega)) (fun n hn=>by simp [aA,AV.under];omega) (fun B=>rfl) rfl
   (fun i l s n J ġ hI hs hn hJ=>⟨P3 c hc hk root lang _ Ĵ l (by have:=hk.G1;omega) s hs n hn J hJ,by simpa using hI⟩) (fun i l h=>by omega) root [] (by simp)
  rw [An,List.nil_append] at h5;have h6:(cK I root ⟨[], []⟩ c.ai).map (kZ I (aF c.ad lang) c)=fp I c root lang:=rfl;rw [h6] at h5;rw [δ hE,hE];rw [Ċ] at h2;rw [hi] at h3;rw [ď] at h1;unfold xE;have ĵ:ak ((fp I c root lang).map cH)=true:=df (fun x=>by simp [cH,AV.plain,ak]) _;have Ĥ:=bW cH (fp I c root lang);generalize hAP:fp I c root lang=AP at*
  unfold WV br dm at*
  simp only [List.map_nil,List.length_nil] at h5;have hoz:(au (aF c.ad lang)).length=(aF c.ad lang).length:=ke _;generalize au (aF c.ad lang)=OA at*
  generalize au c.ad=L1 at*
  generalize c.av.map dc=L2 at*
  generalize c.ai.map bw=L3 at*
  generalize AP.map cH=AL at*
  simp (maxSteps:=9^9) (disch:=omega) [-A,-F,-w,-G,-H,om,Mw,h1,h2,h3,h4,h5,ab,aJ,Ĥ,ĵ]
 ·rw [U hE];unfold aW at*
  unfold Kj br dm at*
  generalize au c.ad=L1 at*
  generalize c.av.map dc=L2 at*
  generalize c.ai.map bw=L3 at*
  by_cases e1:dU c=0
  ·rw [U (by simp [e1])] at hE⊢;rw [e1] at h1;cases e2:cD c.ad lang with
   | false=>rw [e2] at h2;simp (maxSteps:=9^9) (disch:=omega) [-A,-F,-w,-G,-H,om,Mw,h1,h2,ab]
   | true=>
    rw [e2] at h2 hE;cases e3:aL c.ai root with
    | none=>rw [e3] at h3;simp (maxSteps:=9^9) (disch:=omega) [-A,-F,-w,-G,-H,om,Mw,h1,h2,h3,ab,aJ]
    | some i=>rw [e3] at hE;simp at hE
  ·rw [δ e1] at hE⊢;simp (maxSteps:=9^9) (disch:=omega) [-A,-F,-w,-G,-H,om,Mw,h1,e1,ab]
end Go.Proofs.YtfgbpngakkhdcaaGreatDoor
namespace Go.Proofs.YtfgbpngakkhdcaaGreatDoor
open Go.Am
set_option maxRecDepth 10000
set_option maxHeartbeats 4000000
theorem Ao (c:Ct) (hc:c.ok) (s:ae):ar cfg 153 [br c,P s] []=Q (Y (aO c s), []):=by
 refine aa YV Ud ?_;have h1:=xx c hc;have h2:=p8 c.ln c.lz c.ad hc.lz hc.ll s;unfold aO;unfold br dm at*
 generalize au c.ad=L1 at*
 generalize c.av.map dc=L2 at*
 generalize c.ai.map bw=L3 at*
 by_cases h:dU c=0
 ·rw [h] at h1;simp (maxSteps:=9^9) (disch:=omega) [-A,-F,-w,-G,-H,om,Mx,h1,h2,h]
 ·have hb:(dU c==0)=false:=by simp [h]
  simp (maxSteps:=9^9) (disch:=omega) [-A,-F,-w,-G,-H,om,Mx,h1,h,hb]
theorem My (c:Ct) (hc:c.ok) (s:ae):ar cfg 54 [br c,P s] []=Q (Y (aO c s), []):=by
 refine aa adA YW ?_;have h1:=xx c hc;have h2:=p8 c.ln c.lz c.ad hc.lz hc.ll s;unfold aO;unfold br dm at*
 generalize au c.ad=L1 at*
 generalize c.av.map dc=L2 at*
 generalize c.ai.map bw=L3 at*
 by_cases h:dU c=0
 ·rw [h] at h1;simp (maxSteps:=9^9) (disch:=omega) [-A,-F,-w,-G,-H,om,Ue,h1,h2,h]
 ·have hb:(dU c==0)=false:=by simp [h]
  simp (maxSteps:=9^9) (disch:=omega) [-A,-F,-w,-G,-H,om,Ue,h1,h,hb]
theorem Mz (c:Ct) (hc:c.ok) (u:Int):ar cfg 104 [br c,M O u] []=Q (P (if dU c=0 then cY c.ai u else []), []):=by
 refine aa YX Uf ?_;have h1:=xx c hc;by_cases h:dU c=0
 ·have hk:=cj h;have h2:=DT c hc u (fun s hs=>by have:=(hk.ai s hs).mark;have:=(hk.ai s hs).wO;omega);rw [δ h];rw [h] at h1;unfold br dm at*
  generalize au c.ad=L1 at*
  generalize c.av.map dc=L2 at*
  generalize c.ai.map bw=L3 at*
  simp (maxSteps:=9^9) (disch:=omega) [-A,-F,-w,-G,-H,om,MA,h1,h2]
 ·rw [U h];unfold br dm at*
  generalize au c.ad=L1 at*
  generalize c.av.map dc=L2 at*
  generalize c.ai.map bw=L3 at*
  simp (maxSteps:=9^9) (disch:=omega) [-A,-F,-w,-G,-H,om,MA,h1,h]
theorem xF {c:Ct} {s:ae} (h:aO c s=Z):cD c.ad s=true:=by unfold aO at h;simp at h;exact h.2
theorem uB {c:Ct} (hc:c.ok) (s:ae):(aF c.ad s).length<1000000\/(aF c.ad s).length<=c.ad.length+1:=by
 right;unfold aF;split
 ·simp only [κ,ε,μ,ν];omega
 ·simp
theorem MC (c:Ct) (hc:c.ok) (el:Int) (s:ae):ar cfg 103 [br c,M O el,P s] []=Q (P (if el<1\/64<el\/aO c s=ζ then [] else fZ (aF c.ad s) c.av el (cX I el)), []):=by
 refine aa YY Ug ?_;have h1:=Ao c hc s;by_cases h:el<1\/64<el
 ·rw [δ (by omega)];unfold br dm at*
  generalize au c.ad=L1 at*
  generalize c.av.map dc=L2 at*
  generalize c.ai.map bw=L3 at*
  rcases h with h | h
  ·simp (maxSteps:=9^9) (disch:=omega) [-A,-F,-w,-G,-H,om,D2,h]
  ·simp (maxSteps:=9^9) (disch:=omega) [-A,-F,-w,-G,-H,om,D2,h]
 ·cases hr:aO c s with
  | false=>
   rw [δ (.inr (.inr rfl))];rw [hr] at h1;unfold br dm at*
   generalize au c.ad=L1 at*
   generalize c.av.map dc=L2 at*
   generalize c.ai.map bw=L3 at*
   simp (maxSteps:=9^9) (disch:=omega) [-A,-F,-w,-G,-H,om,D2,h1,h]
  | true=>
   rw [U (by simp;omega)];rw [hr] at h1;have h2:=uz c hc s (xF hr);have hk:dU c=0:=by unfold aO at hr;simp at hr;exact hr.1
   have hl:=(uB hc s).resolve_left;have h3:=DS c hc el (by omega) (by omega) S (aF c.ad s) (by have:=(cj hk).l2;rcases uB hc s with h | h <;> omega);unfold br dm at*
   generalize au c.ad=L1 at*
   generalize c.av.map dc=L2 at*
   generalize c.ai.map bw=L3 at*
   generalize au (aF c.ad s)=OA at*
   simp (maxSteps:=9^9) (disch:=omega) [-A,-F,-w,-G,-H,om,D2,h1,h2,h3,h]
theorem Ap (c:Ct) (hc:c.ok) (u:Int) (s:ae): ∃nl z,ar cfg 112 [br c,M O u,P s] []=Q (ι nl z ((bR c u s).map dQ), [])/\(bR c u s≠ []->z=3):=by
 have h1:=Ao c hc s;have h2:=wX c.sn c.sz c.ai hc.sz hc.sl u;unfold bR ep;cases hx:aL c.ai u with
 | none=>
  rw [hx] at h2;have ĥ:bT c u=none:=by unfold bT;rw [hx]
  rw [ĥ];have he:(if aO c s=Z then ay (aF c.ad s) [] else [])= []:=by split <;> rfl
  simp only [he];refine ⟨Q Z,0,?_,fun h=>absurd rfl h⟩;refine aa MD G2 ?_;unfold br dm at*
  generalize au c.ad=L1 at*
  generalize c.av.map dc=L2 at*
  generalize c.ai.map bw=L3 at*
  simp (maxSteps:=9^9) (disch:=omega) [-A,-F,-w,-G,-H,om,I3,h2,aJ]
 | some i=>
  rw [hx] at h2;have hi:=cN hx;have hgo:c.ai[i]?=Q c.ai[i]:=List.getElem?_eq_getElem hi;have ĥ:bT c u=Q c.ai[i]:=by unfold bT;rw [hx];exact hgo
  rw [ĥ];have Ķ:=hc.sz (ne_of_lt hi);have hg:(c.ai.map bw)[i]?=Q (.agg [M O c.ai[i].unit,M O c.ai[i].par,M O c.ai[i].level,P c.ai[i].mark,P c.ai[i].title,ι c.ai[i].fn c.ai[i].fz (c.ai[i].facts.map dQ)]):=get_map _ _ hi;have Ĩ:=hc.sh _ (θ hi);have ğ:=bW bw c.ai;have ġ:i<1000000:=by have:=hc.sl;omega
  cases hr:aO c s with
  | false=>
   rw [hr] at h1;refine ⟨Q Z,0,?_,by simp⟩;refine aa MD G2 ?_;unfold br dm at*
   generalize au c.ad=L1 at*
   generalize c.av.map dc=L2 at*
   generalize c.ai.map bw=L3 at*
   simp (maxSteps:=9^9) (disch:=omega) [-A,-F,-w,-G,-H,om,I3,h1,h2,aJ]
  | true=>
   rw [hr] at h1;have h3:=uz c hc s (xF hr);have hk:dU c=0:=by unfold aO at hr;simp at hr;exact hr.1
   have h4:=xz c.ai[i].fn c.ai[i].fz c.ai[i].facts Ĩ.fz Ĩ.fl S (aF c.ad s) (by have:=(cj hk).l2;rcases uB hc s with h | h <;> omega);refine ⟨S,3,?_,fun _=>rfl⟩;refine aa MD G2 ?_;unfold br dm at*
   simp only [if_true];generalize c.ai[i]=x at*
   generalize au c.ad=L1 at*
   generalize c.av.map dc=L2 at*
   generalize c.ai.map bw=L3 at*
   generalize au (aF c.ad s)=OA at*
   generalize (ay (aF c.ad s) x.facts).map dQ=CA at*
   rw [Ķ] at*
   simp (maxSteps:=9^9) (disch:=omega) [-A,-F,-w,-G,-H,om,I3,h1,h2,h3,h4,aJ,hg,ğ,hi]
end Go.Proofs.YtfgbpngakkhdcaaGreatDoor
namespace Go.Proofs.YtfgbpngakkhdcaaGreatDoor
open Go.Am
set_option maxRecDepth 10000
set_option maxHeartbeats 4000000
theorem Kk (s:Sh) (u:Int) (B:L af) (hB:shut (Ê B) B=Z) (hu:af.at B 1= W 3 [M O u]):ar cfg 188 [bw s,π 1 0] B=Q (Y (s.unit==u),B):=by
 refine aa YZ Uh ?_;have hm:=shut_map (ξ _) hB
 have h1:1<Ê B:=by
  rcases Nat.lt_or_ge 1 (Ê B) with h | h
  ·exact h
  ·have:af.at B 1= .dead:=by simp [af.at,w,List.getElem?_eq_none h]
   rw [this] at hu;cases hu
 have a1: ∀l,af.at (B++l) 1= W 3 [M O u]:=fun l=>by rw [fX _ _ h1,hu]
 unfold bw;simp (maxSteps:=9^9) (disch:=omega) [-A,-F,-w,-G,-H,om,Sp,a1,hm]
 try exact ο (by simp)
theorem ME (c:Ct) (hc:c.ok) (u:Int):ar cfg 151 [br c,M O u] []=Q (M O (aJ (aL c.ai u)), []):=by
 refine aa Y0 Ui ?_;have h:=DQ c.sn c.sz c.ai hc.sz hc.sl 188 ⟨rfl,rfl,rfl,rfl⟩ 1 [W 26 (dm c),W 3 [M O u]] u (fun s=>Kk s u _ (by simp [shut,aA,AV.under,dm]) rfl) (by simp) (by simp [shut,aA,AV.under,dm]);unfold br dm at*
 generalize au c.ad=L1 at*
 generalize c.av.map dc=L2 at*
 generalize c.ai.map bw=L3 at*
 simp (maxSteps:=9^9) (disch:=omega) [-A,-F,-w,-G,-H,om,Sq,h]
theorem cW:Lib.fields [102,111,110,100,115,32,115,101,114,105,101,115,32,102,105,108,101,32,105,116,101,109]= [[102,111,110,100,115], [115,101,114,105,101,115], [102,105,108,101], [105,116,101,109]]:=by decide+kernel
theorem I4 (lev:Int) (h1:1<=lev) (h4:lev<=4):ar cfg 134 [M O lev] []=Q (P (ec lev), []):=by
 refine aa Y4 Uj ?_;have h:lev=1\/lev=2\/lev=3\/lev=4:=by omega
 rcases h with rfl | rfl | rfl | rfl
 ·simp (maxSteps:=9^9) (disch:=omega) [-A,-F,-w,-G,-H,om,D3,ff,cW,ec]
 ·simp (maxSteps:=9^9) (disch:=omega) [-A,-F,-w,-G,-H,om,D3,ff,cW,ec]
 ·simp (maxSteps:=9^9) (disch:=omega) [-A,-F,-w,-G,-H,om,D3,ff,cW,ec]
 ·simp (maxSteps:=9^9) (disch:=omega) [-A,-F,-w,-G,-H,om,D3,ff,cW,ec]
