/- Catalogs that are few. -/
import Derived.Test.YtfgbpngakkhdcaaGreatDoorRfM
open Bool renaming false->U,true->τ,and_eq_true->Q,false_and->X,false_or->Λ,true_and->Z,true_or->Ξ
open Go.Am.AV renaming aC->Μ,agg->ψ,ah->ξ,bool->Ρ,int->W,ptr->Γ,str->δ
open Go.Am.af renaming dead->ω,sl->Κ,var->χ
open Go.IntKind renaming i64->V
open Go.Lib renaming itoa->R,itoa_length_le->Ν
open List renaming length->Ê,all_cons->ρ,all_eq_true->ο,all_nil->σ,drop_eq_getElem_cons->L,drop_eq_nil_of_le->M,drop_zero->υ,flatMap_cons->Ο,getD_eq_getElem?_getD->B,getElem_mem->η,length_append->T,length_cons->J,length_map->ν,length_nil->θ,map_append->γ,map_cons->μ,map_map->ε,map_nil->Α,map_replicate->C,map_set->F,map_take->ζ,mem_cons->Χ,mem_cons_of_mem->Θ,mem_map->Ω,take_length->π,take_succ_eq_append_getElem->Y
open List.cons renaming injEq->Τ
open Nat renaming le_trans->Δ,mul_le_mul_right->Η,succ_mul->ϊ
open Option renaming none->I,some->P
open _root_ renaming Bool->Υ,List->κ,Nat->Ε,Option->φ,bne_eq_false_iff_eq->Ι,decide_eq_true_eq->S,false_and->Ψ,getElem?_neg->H,getElem?_pos->G,if_false->Φ,if_neg->ι,if_pos->Ζ,if_true->Β
set_option linter.all false
namespace Go.Proofs.YtfgbpngakkhdcaaGreatDoor
open Go.Am
set_option maxRecDepth 10000
set_option maxHeartbeats 8000000
def qL (a b n:Ε):Υ:=decide (n<=a\/b<n/\n<=b+1)
def LC (f:Fc):Υ:=decide (f.lang.length<=10)&&qL 60 4096 f.text.length
def z7 (s:Sh):Υ:=(decide (s.mark.length<=70)&&decide (s.title.length<=70)&&qL 6 32 s.facts.length)&&s.facts.all LC
def Ir (b:Lb):Υ:=decide (b.text.length<=70)&&decide (b.lang.length<=10)
def qM (c:Ct):Υ:=(decide (c.ad.length<=10)&&qL 20 256 c.av.length&&qL 14 256 c.ai.length)&&(c.ad.all (fun s=>decide (Ê s<=10))&&(c.av.all Ir&&c.ai.all z7))
theorem Ol {c:Ct} (hi:c.Af) (h:qM c=τ):c.ok:=by unfold qM qL at h;simp only [Q,S,ο] at h;obtain ⟨⟨⟨h1,h2⟩,h3⟩,h4,h5,h6⟩:=h;refine ⟨hi.lz,hi.bz,hi.sz,by omega,by omega,by omega,fun s hs=>⟨(hi.sh s hs).fz,?_⟩⟩;have:=h6 s hs;unfold z7 qL at this;simp only [Q,S] at this;omega
theorem JV (c:Ct) (hi:c.Af):ar cfg 10 [br c] []=P (Ρ (qM c), []):=by
 refine aa adW aaF ?_;have hl:=hi.ll;have hb:=hi.bl;have hs:=hi.sl;unfold maxLen at hl hb hs;unfold qM br dm;generalize hL:c.ad.length=nL at*
 generalize hB:c.av.length=nB at*
 generalize hS:c.ai.length=nS at*
 have Ē:(au c.ad).length=nL:=by simp [hL]
 have ē:(c.av.map dc).length=nB:=by simp [hB]
 have Ĕ:(c.ai.map bw).length=nS:=by simp [hS]
 obtain ⟨AA,hA⟩: ∃A,A=(c.ad.all (fun s=>decide (Ê s<=10))&&(c.av.all Ir&&c.ai.all z7)):=⟨_,rfl⟩;rw [<-hA];have Ĝ: ∀k (h:k<c.ad.length),(au c.ad)[k]?=P (δ c.ad[k]):=fun k h=>get_map _ _ (by omega);have ĕ: ∀k (h:k<c.av.length),(c.av.map dc)[k]?=P (dc c.av[k]):=fun k h=>get_map _ _ (by omega);have Ė: ∀k (h:k<c.ai.length),(c.ai.map bw)[k]?=P (bw c.ai[k]):=fun k h=>get_map _ _ (by omega);have z1:=hi.lz;have z2:=hi.bz;have z3:=hi.sz;generalize au c.ad=L1 at*
 generalize c.av.map dc=L2 at*
 generalize c.ai.map bw=L3 at*
 by_cases hQ:(decide (nL<=10)&&qL 20 256 nB&&qL 14 256 nS)=τ
 case neg=>
  rw [Bool.eq_false_iff.2 hQ,X];clear Ĝ ĕ Ė z1 z2 z3;simp (maxSteps:=9^9) (disch:=omega) [-C,-F,-B,-G,-H,om,V0,Ē,ē,Ĕ];unfold qL at hQ;simp only [Q,S] at hQ
  intros
  exfalso;omega
 rw [hQ,Z];have hq:=hQ;unfold qL at hq;simp only [Q,S] at hq;obtain ⟨⟨q1,q2⟩,q3⟩:=hq;simp (maxSteps:=9^9) (disch:=omega) [-C,-F,-B,-G,-H,om,V0,Ē,ē,Ĕ];rw [ι (by omega)];refine Wp.az (fun (i:Ε)=>nL-i) (fun i=> [I,P (Γ 0 0),I,P (W V i),I,I,I,I,I,I,I,I,I,I,I,I,I,I]) (fun _=> [χ 26 [ξ c.ln c.lz L1,ξ c.bn c.bz L2,ξ c.sn c.sz L3]]) (fun i=>AA=((c.ad.drop i).all (fun s=>decide (Ê s<=10))&&(c.av.all Ir&&c.ai.all z7))/\i<=nL) ?_ 0 ⟨by rw [υ];exact hA,by omega⟩ (by simp) rfl;clear hA;rintro i ⟨hA,ą⟩;by_cases h1:i<nL
 ·have hg:=Ĝ i (by omega);have Ą:i<c.ad.length:=by omega
  obtain č:=z1 (ne_of_lt Ą);rw [L Ą,ρ] at hA;generalize c.ad[i]=x at*
  clear Ĝ ĕ Ė z1 z2 z3 q2 q3;by_cases hx:Ê x<=10
  ·rw [show decide (Ê x<=10)=τ by simpa using hx,Z] at hA;simp (maxSteps:=9^9) (disch:=omega) [-C,-F,-B,-G,-H,om,h1,hg,Ē,hx,č];exact ⟨i+1,⟨hA,by omega⟩,by omega,by simp⟩
  ·rw [show decide (Ê x<=10)=U by simpa using hx,X,X] at hA;subst hA;simp (maxSteps:=9^9) (disch:=omega) [-C,-F,-B,-G,-H,om,h1,hg,Ē,hx,č]
 ·rw [M (by omega),σ,Z] at hA;clear Ĝ z1;simp (maxSteps:=9^9) (disch:=omega) [-C,-F,-B,-G,-H,om,h1,Ē];refine Wp.az (fun (i:Ε)=>nB-i) (fun i=> [I,P (Γ 0 0),I,I,P (W V i),I,I,I,I,I,I,I,I,I,I,I,I,I]) (fun _=> [χ 26 [ξ c.ln c.lz L1,ξ c.bn c.bz L2,ξ c.sn c.sz L3]]) (fun i=>AA=((c.av.drop i).all Ir&&c.ai.all z7)/\i<=nB) ?_ 0 ⟨by rw [υ];exact hA,by omega⟩ (by simp) rfl;clear hA;rintro i ⟨hA,ą⟩;by_cases h1:i<nB
  ·have hg:=ĕ i (by omega);have Ą:i<c.av.length:=by omega
   obtain č:=z2 (ne_of_lt Ą);rw [L Ą,ρ] at hA;generalize c.av[i]=x at*
   unfold dc at hg;clear ĕ Ė z2 z3 q2 q3;by_cases hx:Ir x=τ
   ·rw [hx,Z] at hA;unfold Ir at hx;simp only [Q,S] at hx;obtain ⟨x1,x2⟩:=hx;simp (maxSteps:=9^9) (disch:=omega) [-C,-F,-B,-G,-H,om,h1,hg,ē,x1,x2,č];exact ⟨i+1,⟨hA,by omega⟩,by omega,by simp⟩
   ·rw [Bool.eq_false_iff.2 hx,X,X] at hA;subst hA;unfold Ir at hx;simp only [Q,S] at hx;simp (maxSteps:=9^9) (disch:=omega) [-C,-F,-B,-G,-H,om,h1,hg,ē,č];omega
  ·rw [M (by omega),σ,Z] at hA;clear ĕ z2;simp (maxSteps:=9^9) (disch:=omega) [-C,-F,-B,-G,-H,om,h1,ē];refine Wp.az (fun (i:Ε)=>nS-i) (fun i=> [I,P (Γ 0 0),I,I,I,P (W V i),I,I,I,I,I,I,I,I,I,I,I,I]) (fun _=> [χ 26 [ξ c.ln c.lz L1,ξ c.bn c.bz L2,ξ c.sn c.sz L3]]) (fun i=>AA=((c.ai.drop i).all z7)/\i<=nS) ?_ 0 ⟨by rw [υ];exact hA,by omega⟩ (by simp) rfl;clear hA;rintro i ⟨hA,ą⟩;by_cases h1:i<nS
   ·have hg:=Ė i (by omega);have Ą:i<c.ai.length:=by omega
    obtain č:=z3 (ne_of_lt Ą);have Ģ:=hi.sh _ (η Ą);rw [L Ą,ρ] at hA;generalize c.ai[i]=x at*
    unfold bw at hg;clear Ė z3 q2 q3;have Č:=Ģ.fz;have ć:=Ģ.fl;unfold maxLen at ć;have hF:=bW dQ x.facts;have ģ: ∀k (h:k<x.facts.length),(x.facts.map dQ)[k]?=P (ψ [W V x.facts[k].el,δ x.facts[k].lang,δ x.facts[k].text]):=fun k h=>get_map _ _ (by omega);generalize x.facts.map dQ=L4 at*
    by_cases hQ2:(decide (x.mark.length<=70)&&decide (x.title.length<=70)&&qL 6 32 x.facts.length)=τ
    case neg=>
     unfold z7 at hA;rw [Bool.eq_false_iff.2 hQ2,X,X] at hA;subst hA;simp (maxSteps:=9^9) (disch:=omega) [-C,-F,-B,-G,-H,om,h1,hg,Ĕ,hF,č,ab];unfold qL at hQ2;simp only [Q,S] at hQ2
     intros
     exfalso;omega
    unfold z7 at hA;rw [hQ2,Z] at hA;unfold qL at hQ2;simp only [Q,S] at hQ2;obtain ⟨⟨y1,y2⟩,y3⟩:=hQ2;simp (maxSteps:=9^9) (disch:=omega) [-C,-F,-B,-G,-H,om,h1,hg,Ĕ,hF,č,ab];rw [ι (by omega)];refine Wp.az (fun (j:Ε)=>x.facts.length-j) (fun j=> [I,P (Γ 0 0),I,I,I,P (W V i),P (Γ 1 0),P (W V j),I,I,I,I,I,I,I,I,I,I]) (fun _=> [χ 26 [ξ c.ln c.lz L1,ξ c.bn c.bz L2,ξ c.sn c.sz L3],χ 74 [W V x.unit,W V x.par,W V x.level,δ x.mark,δ x.title,ξ x.fn x.fz L4]]) (fun j=>AA=((x.facts.drop j).all LC&&(c.ai.drop (i+1)).all z7)/\j<=x.facts.length) ?_ 0 ⟨by rw [υ];exact hA,by omega⟩ (by simp) (by rw [č]);clear hA;rintro j ⟨hA,Ĥ⟩;by_cases h2:j<x.facts.length
    ·have ĥ:=ģ j h2;obtain ė:=Č (ne_of_lt h2);rw [L h2,ρ] at hA;generalize x.facts[j]=f at*
     clear ģ Č y3;by_cases hx:LC f=τ
     ·rw [hx,Z] at hA;unfold LC qL at hx;simp only [Q,S] at hx;simp (maxSteps:=9^9) (disch:=omega) [-C,-F,-B,-G,-H,om,h2,ĥ,hF,ė];rw [ι (by omega)];exact ⟨j+1,⟨hA,by omega⟩,by omega,by simp⟩
     ·rw [Bool.eq_false_iff.2 hx,X,X] at hA;subst hA;unfold LC qL at hx;simp only [Q,S] at hx;simp (maxSteps:=9^9) (disch:=omega) [-C,-F,-B,-G,-H,om,h2,ĥ,hF,ė];omega
    ·rw [M (by omega),σ,Z] at hA;simp (maxSteps:=9^9) (disch:=omega) [-C,-F,-B,-G,-H,om,h2,hF];exact ⟨i+1,⟨hA,by omega⟩,by omega,by simp⟩
   ·rw [M (by omega),σ] at hA;simp (maxSteps:=9^9) (disch:=omega) [-C,-F,-B,-G,-H,om,h1,Ĕ,hA]
theorem Rq (nl:φ Υ) (z:Ε) (l:κ (Cell×ae)) (hz:l≠ []->z=3) (hl:Ê l<=9223372036854775807): ∃b,ar cfg 40 [ξ nl z (aN l)] []=P (Ρ b, [])/\(b=true->Ê l<=30/\ ∀r∈l,r.2.length<=1000):=by
 refine ⟨(l.all fun r=>decide (r.2.length<=1000))&&decide (Ê l<=30),aa adX aaG ?_,fun h=>by
  simp only [Q,ο,S] at h;exact ⟨h.2,h.1⟩⟩
 have hE:=L6 l;have Ă:=fm l;generalize aN l=E at*
 simp (maxSteps:=9^9) (disch:=omega) [-C,-F,-B,-G,-H,om,aaH];refine Wp.az (fun (i:Ε)=>Ê l-i) (fun i=> [P (ξ nl z E),I,P (W V i),I,I]) (fun _=> []) (fun i=>(l.all fun r=>decide (r.2.length<=1000))=((l.drop i).all fun r=>decide (r.2.length<=1000))/\i<=Ê l) ?_ 0 ⟨by simp,by omega⟩ (by simp) rfl;rintro i ⟨hi,ą⟩;rw [hi];clear hi;by_cases h1:i<Ê l
 ·have hg:=hE i h1;obtain rfl:=hz (ne_of_lt h1);rw [L h1,ρ];clear hE;generalize l[i]=r at*
  by_cases h2:r.2.length<=1000
  ·rw [show decide (r.2.length<=1000)=τ by simpa using h2,Z];generalize hq:((l.drop (i+1)).all fun r=>decide (r.2.length<=1000))=q at*
   simp (maxSteps:=9^9) (disch:=omega) [-C,-F,-B,-G,-H,om,h1,hg,Ă,h2];exact ⟨i+1,⟨hq.symm,by omega⟩,by omega,by simp⟩
  ·rw [show decide (r.2.length<=1000)=U by simpa using h2,X,X];simp (maxSteps:=9^9) (disch:=omega) [-C,-F,-B,-G,-H,om,h1,hg,Ă,h2]
 ·rw [M (by omega),σ,Z];by_cases h3:Ê l<=30
  ·simp (maxSteps:=9^9) (disch:=omega) [-C,-F,-B,-G,-H,om,h1,Ă,h3]
  ·simp (maxSteps:=9^9) (disch:=omega) [-C,-F,-B,-G,-H,om,h1,Ă,h3]
def oh (s:Sh):Sh:=⟨s.unit,s.par,s.level,s.mark,s.title,s.facts,if s.facts= [] then P U else I,if s.facts= [] then 0 else 3⟩
def nq (c:Ct):Ct:=⟨c.ad,c.av,c.ai.map oh,if c.ad= [] then P U else I,if c.ad= [] then 0 else 1,if c.av= [] then P U else I,if c.av= [] then 0 else 4,I,6⟩
theorem jV (c:Ct):(nq c).PO c:=by unfold Ct.PO Ct.jK nq;simp only [ε];congr 1
theorem vj {c:Ct} (h:c.ok):(nq c).ok:=by refine ⟨fun h=>by simp only [nq] at h⊢;rw [ι h],fun h=>by simp only [nq] at h⊢;rw [ι h],fun _=>rfl,h.ll,h.bl,by simp only [nq,ν];exact h.sl,fun s hs=> ?_⟩;simp only [nq,Ω] at hs;obtain ⟨t,ht,rfl⟩:=hs;exact ⟨fun h=>by simp only [oh] at h⊢;rw [ι h],(h.sh t ht).fl⟩
theorem Gc (c:Ct) (hc:c.ok):ar cfg 12 [br c] []=P (br (nq c), []):=by
 refine aa adY aaI ?_;obtain ⟨ad,av,ai,ln,lz,bn,bz,sn,sz⟩:=c;have l1:=hc.ll;have l2:=hc.bl;have l3:=hc.sl;have z1:=hc.lz;have z2:=hc.bz;have z3:=hc.sz;have Ę:=hc.sh;clear hc;unfold br dm nq;simp only at l1 l2 l3 z1 z2 z3 Ę⊢;have p3:=c6 ai;have e3:=bW bw ai;have hE:=sG bw ai;generalize ai.map bw=L3 at*
 obtain ⟨OUT,Ĉ⟩: ∃O,O=(ai.map oh).map bw:=⟨_,rfl⟩;rw [<-Ĉ];cases ad with
 | nil=>
  cases av with
  | nil=>
   simp (maxSteps:=9^9) (disch:=omega) [-C,-F,-B,-G,-H,om,Om,p3,e3,ab,au,dc];refine Wp.az (fun (i:Ε)=>Ê ai-i) (fun i=> [I,P (Γ 0 0),P (Γ 1 0),P (Γ 9 0),P (W V i),I,I,I,I,I,I,I,I,I,I,I,I,I]) (fun i=> [χ 26 [ξ ln lz [],ξ bn bz [],ξ sn sz L3],χ 26 [Μ 2 0,Μ 3 0,Μ 4 0],Κ ⟨U,P 9,I⟩ 1 [],Κ ⟨U,P 80,I⟩ 4 [],Κ ⟨U,P 74,I⟩ 6 [],ω,ω,ω,ω,χ 26 [.cG (P U),.cG (P U),Μ 10 i],Κ ⟨U,P 74,I⟩ 6 (((ai.take i).map oh).map bw)]) (fun i=>i<=Ê ai) ?_ 0 (by omega) (by simp) (by simp);rintro i ą;have ă:(((ai.take i).map oh).map bw).length=i:=by simp;omega
   by_cases q1:i<Ê ai
   ·have hg:=hE i q1;obtain rfl:=z3 (ne_of_lt q1)
    have Ā:((ai.take (i+1)).map oh).map bw=((ai.take i).map oh).map bw++ [bw (oh ai[i])]:=by rw [Y q1,γ,γ];rfl
    have ĉ:=Ę _ (η q1);have ā:=c6 ((ai.take i).map oh);generalize ai[i]=w at*
    have hst:bw (oh w)= ψ [W V w.unit,W V w.par,W V w.level,δ w.mark,δ w.title,ξ (if w.facts= [] then P U else I) (if w.facts= [] then 0 else 3) (w.facts.map dQ)]:=rfl;rw [hst] at Ā;unfold bw at hg;clear hst;have Č:=ĉ.fz;have ć:=ĉ.fl;generalize ((ai.take i).map oh).map bw=đ at*
    cases hw:w.facts with
    | nil=>rw [hw] at hg Ā;simp only [Α,Β] at hg Ā;simp (maxSteps:=9^9) (disch:=omega) [-C,-F,-B,-G,-H,om,q1,hg,e3,ă,ab,ā];exact ⟨i+1,by omega,by omega,by simp,by simp only [ε,ζ] at Ā;exact ⟨rfl,Ā.symm⟩⟩
    | cons f fs=>
     have Ć:=Č (by rw [hw];simp);rw [hw] at hg Ā ć;rw [Ć] at hg;rw [ι (by simp)] at Ā;simp only [μ,J] at hg Ā ć;have Ċ:=iF fs;have ċ:=bW dQ fs;unfold dQ at hg Ā Ċ ċ;generalize fs.map _=Ğ at*
     simp (maxSteps:=9^9) (disch:=omega) [-C,-F,-B,-G,-H,om,q1,hg,e3,ă,ab,ā,Ċ,ċ];exact ⟨i+1,by omega,by omega,by simp,by simp only [ε,ζ] at Ā;exact ⟨rfl,Ā.symm⟩⟩
   ·obtain rfl:i=Ê ai:=by omega
    have ā:=c6 ((ai.take (Ê ai)).map oh);rw [π] at ă ā⊢;rw [<-Ĉ] at ă ā⊢;simp (maxSteps:=9^9) (disch:=omega) [-C,-F,-B,-G,-H,om,q1,e3,ă,ab,ā]
  | cons y s=>
   have z2:=z2 (by simp);have p2:=mw s;have e2:=bW dc s;simp only [J] at l2;rw [z2,μ];unfold dc at*
   generalize s.map _=L2 at*
   simp (maxSteps:=9^9) (disch:=omega) [-C,-F,-B,-G,-H,om,Om,p3,e3,ab,au,dc,p2,e2];refine Wp.az (fun (i:Ε)=>Ê ai-i) (fun i=> [I,P (Γ 0 0),P (Γ 1 0),P (Γ 9 0),P (W V i),I,I,I,I,I,I,I,I,I,I,I,I,I]) (fun i=> [χ 26 [ξ ln lz [],ξ bn 4 (ψ [W V y.el,δ y.lang,δ y.text,W V y.ix]::L2),ξ sn sz L3],χ 26 [Μ 2 0,Μ 3 0,Μ 4 0],Κ ⟨U,P 9,I⟩ 1 [],Κ ⟨U,P 80,I⟩ 4 [],Κ ⟨U,P 74,I⟩ 6 [],ω,ω,ω,Κ ⟨U,P 80,I⟩ 4 (ψ [W V y.el,δ y.lang,δ y.text,W V y.ix]::L2),χ 26 [.cG (P U),Μ 8 (Ê s+1),Μ 10 i],Κ ⟨U,P 74,I⟩ 6 (((ai.take i).map oh).map bw)]) (fun i=>i<=Ê ai) ?_ 0 (by omega) (by simp) (by simp);rintro i ą;have ă:(((ai.take i).map oh).map bw).length=i:=by simp;omega
   by_cases q1:i<Ê ai
   ·have hg:=hE i q1;obtain rfl:=z3 (ne_of_lt q1)
    have Ā:((ai.take (i+1)).map oh).map bw=((ai.take i).map oh).map bw++ [bw (oh ai[i])]:=by rw [Y q1,γ,γ];rfl
    have ĉ:=Ę _ (η q1);have ā:=c6 ((ai.take i).map oh);generalize ai[i]=w at*
    have hst:bw (oh w)= ψ [W V w.unit,W V w.par,W V w.level,δ w.mark,δ w.title,ξ (if w.facts= [] then P U else I) (if w.facts= [] then 0 else 3) (w.facts.map dQ)]:=rfl;rw [hst] at Ā;unfold bw at hg;clear hst;have Č:=ĉ.fz;have ć:=ĉ.fl;generalize ((ai.take i).map oh).map bw=đ at*
    cases hw:w.facts with
    | nil=>rw [hw] at hg Ā;simp only [Α,Β] at hg Ā;simp (maxSteps:=9^9) (disch:=omega) [-C,-F,-B,-G,-H,om,q1,hg,e3,ă,ab,ā];exact ⟨i+1,by omega,by omega,by simp,by simp only [ε,ζ] at Ā;exact ⟨rfl,Ā.symm⟩⟩
    | cons f fs=>
     have Ć:=Č (by rw [hw];simp);rw [hw] at hg Ā ć;rw [Ć] at hg;rw [ι (by simp)] at Ā;simp only [μ,J] at hg Ā ć;have Ċ:=iF fs;have ċ:=bW dQ fs;unfold dQ at hg Ā Ċ ċ;generalize fs.map _=Ğ at*
     simp (maxSteps:=9^9) (disch:=omega) [-C,-F,-B,-G,-H,om,q1,hg,e3,ă,ab,ā,Ċ,ċ];exact ⟨i+1,by omega,by omega,by simp,by simp only [ε,ζ] at Ā;exact ⟨rfl,Ā.symm⟩⟩
   ·obtain rfl:i=Ê ai:=by omega
    have ā:=c6 ((ai.take (Ê ai)).map oh);rw [π] at ă ā⊢;rw [<-Ĉ] at ă ā⊢;simp (maxSteps:=9^9) (disch:=omega) [-C,-F,-B,-G,-H,om,q1,e3,ă,ab,ā,p2,e2]
 | cons x r=>
  have z1:=z1 (by simp);have p1:=xu r;have e1:(au r).length=Ê r:=by simp
  have hx:au (x::r)= δ x::au r:=rfl;simp only [J] at l1;rw [z1,hx];generalize au r=L1 at*
  cases av with
  | nil=>
   simp (maxSteps:=9^9) (disch:=omega) [-C,-F,-B,-G,-H,om,Om,p3,e3,ab,au,dc,p1,e1];refine Wp.az (fun (i:Ε)=>Ê ai-i) (fun i=> [I,P (Γ 0 0),P (Γ 1 0),P (Γ 9 0),P (W V i),I,I,I,I,I,I,I,I,I,I,I,I,I]) (fun i=> [χ 26 [ξ ln 1 (δ x::L1),ξ bn bz [],ξ sn sz L3],χ 26 [Μ 2 0,Μ 3 0,Μ 4 0],Κ ⟨U,P 9,I⟩ 1 [],Κ ⟨U,P 80,I⟩ 4 [],Κ ⟨U,P 74,I⟩ 6 [],ω,Κ ⟨U,P 9,I⟩ 1 (δ x::L1),ω,ω,χ 26 [Μ 6 (Ê r+1),.cG (P U),Μ 10 i],Κ ⟨U,P 74,I⟩ 6 (((ai.take i).map oh).map bw)]) (fun i=>i<=Ê ai) ?_ 0 (by omega) (by simp) (by simp);rintro i ą;have ă:(((ai.take i).map oh).map bw).length=i:=by simp;omega
   by_cases q1:i<Ê ai
   ·have hg:=hE i q1;obtain rfl:=z3 (ne_of_lt q1)
    have Ā:((ai.take (i+1)).map oh).map bw=((ai.take i).map oh).map bw++ [bw (oh ai[i])]:=by rw [Y q1,γ,γ];rfl
    have ĉ:=Ę _ (η q1);have ā:=c6 ((ai.take i).map oh);generalize ai[i]=w at*
    have hst:bw (oh w)= ψ [W V w.unit,W V w.par,W V w.level,δ w.mark,δ w.title,ξ (if w.facts= [] then P U else I) (if w.facts= [] then 0 else 3) (w.facts.map dQ)]:=rfl;rw [hst] at Ā;unfold bw at hg;clear hst;have Č:=ĉ.fz;have ć:=ĉ.fl;generalize ((ai.take i).map oh).map bw=đ at*
    cases hw:w.facts with
    | nil=>rw [hw] at hg Ā;simp only [Α,Β] at hg Ā;simp (maxSteps:=9^9) (disch:=omega) [-C,-F,-B,-G,-H,om,q1,hg,e3,ă,ab,ā];exact ⟨i+1,by omega,by omega,by simp,by simp only [ε,ζ] at Ā;exact ⟨rfl,Ā.symm⟩⟩
    | cons f fs=>
     have Ć:=Č (by rw [hw];simp);rw [hw] at hg Ā ć;rw [Ć] at hg;rw [ι (by simp)] at Ā;simp only [μ,J] at hg Ā ć;have Ċ:=iF fs;have ċ:=bW dQ fs;unfold dQ at hg Ā Ċ ċ;generalize fs.map _=Ğ at*
     simp (maxSteps:=9^9) (disch:=omega) [-C,-F,-B,-G,-H,om,q1,hg,e3,ă,ab,ā,Ċ,ċ];exact ⟨i+1,by omega,by omega,by simp,by simp only [ε,ζ] at Ā;exact ⟨rfl,Ā.symm⟩⟩
   ·obtain rfl:i=Ê ai:=by omega
    have ā:=c6 ((ai.take (Ê ai)).map oh);rw [π] at ă ā⊢;rw [<-Ĉ] at ă ā⊢;simp (maxSteps:=9^9) (disch:=omega) [-C,-F,-B,-G,-H,om,q1,e3,ă,ab,ā,p1,e1]
  | cons y s=>
   have z2:=z2 (by simp);have p2:=mw s;have e2:=bW dc s;simp only [J] at l2;rw [z2,μ];unfold dc at*
   generalize s.map _=L2 at*
   simp (maxSteps:=9^9) (disch:=omega) [-C,-F,-B,-G,-H,om,Om,p3,e3,ab,au,dc,p1,e1,p2,e2];refine Wp.az (fun (i:Ε)=>Ê ai-i) (fun i=> [I,P (Γ 0 0),P (Γ 1 0),P (Γ 9 0),P (W V i),I,I,I,I,I,I,I,I,I,I,I,I,I]) (fun i=> [χ 26 [ξ ln 1 (δ x::L1),ξ bn 4 (ψ [W V y.el,δ y.lang,δ y.text,W V y.ix]::L2),ξ sn sz L3],χ 26 [Μ 2 0,Μ 3 0,Μ 4 0],Κ ⟨U,P 9,I⟩ 1 [],Κ ⟨U,P 80,I⟩ 4 [],Κ ⟨U,P 74,I⟩ 6 [],ω,Κ ⟨U,P 9,I⟩ 1 (δ x::L1),ω,Κ ⟨U,P 80,I⟩ 4 (ψ [W V y.el,δ y.lang,δ y.text,W V y.ix]::L2),χ 26 [Μ 6 (Ê r+1),Μ 8 (Ê s+1),Μ 10 i],Κ ⟨U,P 74,I⟩ 6 (((ai.take i).map oh).map bw)]) (fun i=>i<=Ê ai) ?_ 0 (by omega) (by simp) (by simp);rintro i ą;have ă:(((ai.take i).map oh).map bw).length=i:=by simp;omega
   by_cases q1:i<Ê ai
   ·have hg:=hE i q1;obtain rfl:=z3 (ne_of_lt q1)
    have Ā:((ai.take (i+1)).map oh).map bw=((ai.take i).map oh).map bw++ [bw (oh ai[i])]:=by rw [Y q1,γ,γ];rfl
    have ĉ:=Ę _ (η q1);have ā:=c6 ((ai.take i).map oh);generalize ai[i]=w at*
    have hst:bw (oh w)= ψ [W V w.unit,W V w.par,W V w.level,δ w.mark,δ w.title,ξ (if w.facts= [] then P U else I) (if w.facts= [] then 0 else 3) (w.facts.map dQ)]:=rfl;rw [hst] at Ā;unfold bw at hg;clear hst;have Č:=ĉ.fz;have ć:=ĉ.fl;generalize ((ai.take i).map oh).map bw=đ at*
    cases hw:w.facts with
    | nil=>rw [hw] at hg Ā;simp only [Α,Β] at hg Ā;simp (maxSteps:=9^9) (disch:=omega) [-C,-F,-B,-G,-H,om,q1,hg,e3,ă,ab,ā];exact ⟨i+1,by omega,by omega,by simp,by simp only [ε,ζ] at Ā;exact ⟨rfl,Ā.symm⟩⟩
    | cons f fs=>
     have Ć:=Č (by rw [hw];simp);rw [hw] at hg Ā ć;rw [Ć] at hg;rw [ι (by simp)] at Ā;simp only [μ,J] at hg Ā ć;have Ċ:=iF fs;have ċ:=bW dQ fs;unfold dQ at hg Ā Ċ ċ;generalize fs.map _=Ğ at*
     simp (maxSteps:=9^9) (disch:=omega) [-C,-F,-B,-G,-H,om,q1,hg,e3,ă,ab,ā,Ċ,ċ];exact ⟨i+1,by omega,by omega,by simp,by simp only [ε,ζ] at Ā;exact ⟨rfl,Ā.symm⟩⟩
   ·obtain rfl:i=Ê ai:=by omega
    have ā:=c6 ((ai.take (Ê ai)).map oh);rw [π] at ă ā⊢;rw [<-Ĉ] at ă ā⊢;simp (maxSteps:=9^9) (disch:=omega) [-C,-F,-B,-G,-H,om,q1,e3,ă,ab,ā,p1,e1,p2,e2]
theorem Is {c:Ct} {lang:ae} {root:Int} (x:Cell):eV R aB c lang root x=if aO c lang=τ then zc R aB c lang root x else []:=by
 unfold eV;by_cases h:aO c lang=τ
 ·rw [Ζ h,Ζ h,JG ve (cj (c5 h).1)]
 ·rw [ι h,ι h]
theorem V5 {c:Ct} {lang:ae} {root:Int} (x:Cell):eV R aB c lang root x=if aO c lang=τ then FU R aB c lang root x else []:=by
 rw [Is];by_cases h:aO c lang=τ
 ·rw [Ζ h,Ζ h,JH (cj (c5 h).1) (c5 h).2]
 ·rw [ι h,ι h]
theorem wD (val:Cell->ae) (r:Cell×ae) (l:κ (Cell×ae)):gz val (r::l)=(decide (val r.1≠r.2) || gz val l):=rfl
theorem LD (c:Ct) (hc:c.ok) (root:Int) (lang:ae) (nl:φ Υ) (z:Ε) (l:κ (Cell×ae)) (hz:l≠ []->z=3) (hl:Ê l<1000000):
  ar cfg 27 [br c,W V root,δ lang,ξ nl z (aN l)] []=P (Ρ (gz (eV R aB c lang root) l), []):=by
 refine aa adZ aaJ ?_;have w1:=My c hc lang;have w2:aO c lang=true-> ∀x:Cell,_:=fun h x=>Bz c hc root lang x h;have hv: ∀x,eV R aB c lang root x=_:=fun x=>Is x;have hE:=L6 l;have Ă:=fm l;generalize aN l=E at*
 generalize eV R aB c lang root=val at*
 generalize zc R aB c lang root=vi at*
 generalize aO c lang=rb at*
 unfold br dm at*
 generalize au c.ad=L1 at*
 generalize c.av.map dc=L2 at*
 generalize c.ai.map bw=L3 at*
 simp (maxSteps:=9^9) (disch:=omega) [-C,-F,-B,-G,-H,om,aaK,w1,Ă];refine Wp.az (fun (i:Ε)=>Ê l-i) (fun i=> [I,P (W V root),P (δ lang),I,P (Γ 0 0),I,P (Ρ rb),I,I,I,P (ξ nl z E),P (W V (Ê l)),P (W V i),I,I,I,I,I]) (fun _=> [χ 26 [ξ c.ln c.lz L1,ξ c.bn c.bz L2,ξ c.sn c.sz L3]]) (fun i=>gz val l=gz val (l.drop i)/\i<=Ê l) ?_ 0 ⟨by simp,by omega⟩ (by simp) rfl;rintro i ⟨hi,ą⟩;rw [hi];clear hi;by_cases h1:i<Ê l
 ·have hg:=hE i h1;obtain rfl:=hz (ne_of_lt h1);rw [L h1,wD];have ĝ:=hv l[i].1;have w3:=fun h=>w2 h l[i].1;clear hE w2 hv w1;generalize l[i]=r at*
  obtain ⟨⟨r1,r2⟩,t⟩:=r;simp only at hg ĝ w3⊢;rw [ĝ];cases rb with
  | true=>
   have w4:=w3 rfl;rw [Ζ rfl];generalize vi (r1,r2)=x at*
   clear w3 ĝ;by_cases he:x=t
   ·have Ď:(x !=t)=false:=by simp [he]
    rw [show decide (x≠t)=U by simp [he],Λ];simp (maxSteps:=9^9) (disch:=omega) [-C,-F,-B,-G,-H,om,h1,hg,ab,w4,he,Ď];exact ⟨i+1,⟨rfl,by omega⟩,by omega,by simp⟩
   ·have Ď:(x !=t)=true:=by simpa using he
    rw [show decide (x≠t)=τ by simpa using he,Ξ];simp (maxSteps:=9^9) (disch:=omega) [-C,-F,-B,-G,-H,om,h1,hg,ab,w4,he,Ď]
  | false=>
   rw [ι (by simp)];clear w3 ĝ;by_cases he:t= []
   ·subst he;rw [show decide (([]:ae)≠ [])=U by simp,Λ];simp (maxSteps:=9^9) (disch:=omega) [-C,-F,-B,-G,-H,om,h1,hg,ab];exact ⟨i+1,⟨rfl,by omega⟩,by omega,by simp⟩
   ·have Ď:(([]:ae) !=t)=true:=by simpa using Ne.symm he
    rw [show decide (([]:ae)≠t)=τ by simpa using Ne.symm he,Ξ];simp (maxSteps:=9^9) (disch:=omega) [-C,-F,-B,-G,-H,om,h1,hg,ab,he,Ď]
 ·rw [M (by omega)];simp (maxSteps:=9^9) (disch:=omega) [-C,-F,-B,-G,-H,om,h1,gz]
theorem LF (c:Ct) (hc:c.ok) (root:Int) (lang:ae) (nl:φ Υ) (z:Ε) (l:κ (Cell×ae)) (hz:l≠ []->z=3) (hl:Ê l<1000000):
  ar cfg 42 [br c,W V root,δ lang,ξ nl z (aN l)] []=P (Ρ (gz (eV R aB c lang root) l), []):=by
 refine aa ad0 aaL ?_;have w2: ∀x:Cell,_:=fun x=>JW c hc root lang x;simp only [<-V5] at w2;have hE:=L6 l;have Ă:=fm l;generalize aN l=E at*
 generalize eV R aB c lang root=val at*
 unfold br dm at*
 generalize au c.ad=L1 at*
 generalize c.av.map dc=L2 at*
 generalize c.ai.map bw=L3 at*
 simp (maxSteps:=9^9) (disch:=omega) [-C,-F,-B,-G,-H,om,aaM];refine Wp.az (fun (i:Ε)=>Ê l-i) (fun i=> [I,P (W V root),P (δ lang),P (ξ nl z E),P (Γ 0 0),I,P (W V i),I,I,I]) (fun _=> [χ 26 [ξ c.ln c.lz L1,ξ c.bn c.bz L2,ξ c.sn c.sz L3]]) (fun i=>gz val l=gz val (l.drop i)/\i<=Ê l) ?_ 0 ⟨by simp,by omega⟩ (by simp) rfl;rintro i ⟨hi,ą⟩;rw [hi];clear hi;by_cases h1:i<Ê l
 ·have hg:=hE i h1;obtain rfl:=hz (ne_of_lt h1);rw [L h1,wD];have w4:=w2 l[i].1;clear hE w2;generalize l[i]=r at*
  obtain ⟨⟨r1,r2⟩,t⟩:=r;unfold im at w4;simp only at hg w4⊢;generalize val (r1,r2)=x at*
  by_cases he:x=t
  ·have Ď:(x !=t)=false:=by simp [he]
   rw [show decide (x≠t)=U by simp [he],Λ];simp (maxSteps:=9^9) (disch:=omega) [-C,-F,-B,-G,-H,om,h1,hg,Ă,ab,w4,he,Ď];exact ⟨i+1,⟨rfl,by omega⟩,by omega,by simp⟩
  ·have Ď:(x !=t)=true:=by simpa using he
   rw [show decide (x≠t)=τ by simpa using he,Ξ];simp (maxSteps:=9^9) (disch:=omega) [-C,-F,-B,-G,-H,om,h1,hg,Ă,ab,w4,he,Ď]
 ·rw [M (by omega)];simp (maxSteps:=9^9) (disch:=omega) [-C,-F,-B,-G,-H,om,h1,Ă,gz]
theorem On (nl Đ:φ Υ) (z z':Ε) (l m:κ (Cell×ae)) (hz:l≠ []->z=3) (ę:m≠ []->z'=3) (hl:Ê l<1000000) (hm:Ê m<1000000):ar cfg 38 [ξ nl z (aN l),ξ Đ z' (aN m)] []=P (Ρ (decide (l=m)), []):=by
 refine aa ad1 aaN ?_;have hE:=L6 l;have Ě:=L6 m;have Ă:=fm l;have ď:=fm m;generalize aN l=E at*
 generalize aN m=E' at*
 by_cases hlm:Ê l=Ê m
 case neg=>
  have h2:((Ê l:Int) !=(Ê m:Int))=true:=by rw [bne_iff_ne];omega
  have h3: ¬ l=m:=fun h=>hlm (by rw [h]);simp (maxSteps:=9^9) (disch:=omega) [-C,-F,-B,-G,-H,om,V6,Ă,ď,h2,h3]
 have h2:((Ê l:Int) !=(Ê m:Int))=false:=by rw [Ι];omega
 simp (maxSteps:=9^9) (disch:=omega) [-C,-F,-B,-G,-H,om,V6,Ă,ď,h2];refine Wp.az (fun (i:Ε)=>Ê l-i) (fun i=> [P (ξ nl z E),P (ξ Đ z' E'),I,P (W V i),I,I,I]) (fun _=> []) (fun i=>(l=m↔l.drop i=m.drop i)/\i<=Ê l) ?_ 0 ⟨by simp,by omega⟩ (by simp) rfl;rintro i ⟨hi,ą⟩;by_cases h1:i<Ê l
 ·have Ą:i<Ê m:=by omega
  have hg:=hE i h1;have ě:=Ě i Ą;obtain rfl:=hz (ne_of_lt h1);obtain rfl:=ę (ne_of_lt Ą);rw [L h1,L Ą,Τ] at hi;clear hE Ě;generalize l[i]=r at*
  generalize m[i]=r' at*
  obtain ⟨⟨r1,r2⟩,t⟩:=r;obtain ⟨⟨Ĩ,ĩ⟩,t'⟩:=r';simp only at hg ě;simp (maxSteps:=9^9) (disch:=omega) [-C,-F,-B,-G,-H,om,h1,Ą,hg,ě,Ă,ď];split
  ·rename_i q;intro e;obtain ⟨e1,_⟩:=hi.1 e;simp only [Prod.mk.injEq] at e1;obtain ⟨⟨e2,e3⟩,e4⟩:=e1;rcases q with (q | q) | q
   ·exact q e2
   ·exact q e3
   ·exact q e4
  ·rename_i q;simp only [not_or,Classical.not_not] at q;obtain ⟨⟨rfl,rfl⟩,rfl⟩:=q;exact ⟨i+1,⟨by rw [hi];simp,by omega⟩,by omega,by simp⟩
 ·rw [M (by omega),M (by omega)] at hi;have ğ:l=m:=hi.2 rfl;simp (maxSteps:=9^9) (disch:=omega) [-C,-F,-B,-G,-H,om,h1,Ă,ď,ğ]
theorem Oo (nl Đ:φ Υ) (z z':Ε) (l m:κ Nd) (hz:l≠ []->z=3) (ę:m≠ []->z'=3) (hl:Ê l<1000000) (hm:Ê m<1000000):ar cfg 74 [ξ nl z (l.map dF),ξ Đ z' (m.map dF)] []=P (Ρ (decide (l=m)), []):=by
 refine aa ad2 aaO ?_;have hE:=YL l;have Ě:=YL m;have Ă:=bW dF l;have ď:=bW dF m;generalize l.map dF=E at*
 generalize m.map dF=E' at*
 by_cases hlm:Ê l=Ê m
 case neg=>
  have h2:((Ê l:Int) !=(Ê m:Int))=true:=by rw [bne_iff_ne];omega
  have h3: ¬ l=m:=fun h=>hlm (by rw [h]);simp (maxSteps:=9^9) (disch:=omega) [-C,-F,-B,-G,-H,om,V7,Ă,ď,h2,h3]
 have h2:((Ê l:Int) !=(Ê m:Int))=false:=by rw [Ι];omega
 simp (maxSteps:=9^9) (disch:=omega) [-C,-F,-B,-G,-H,om,V7,Ă,ď,h2];refine Wp.az (fun (i:Ε)=>Ê l-i) (fun i=> [P (ξ nl z E),P (ξ Đ z' E'),I,P (W V i),I,I,I]) (fun _=> []) (fun i=>(l=m↔l.drop i=m.drop i)/\i<=Ê l) ?_ 0 ⟨by simp,by omega⟩ (by simp) rfl;rintro i ⟨hi,ą⟩;by_cases h1:i<Ê l
 ·have Ą:i<Ê m:=by omega
  have hg:=hE i h1;have ě:=Ě i Ą;obtain rfl:=hz (ne_of_lt h1);obtain rfl:=ę (ne_of_lt Ą);rw [L h1,L Ą,Τ] at hi;clear hE Ě;generalize l[i]=r at*
  generalize m[i]=r' at*
  obtain ⟨r1,r2,t⟩:=r;obtain ⟨Ĩ,ĩ,t'⟩:=r';simp only at hg ě;simp (maxSteps:=9^9) (disch:=omega) [-C,-F,-B,-G,-H,om,h1,Ą,hg,ě,Ă,ď];split
  ·rename_i q;intro e;obtain ⟨e1,_⟩:=hi.1 e;simp only [Nd.mk.injEq] at e1;obtain ⟨e2,e3,e4⟩:=e1;rcases q with q | q | q
   ·exact q e2
   ·exact q e3
   ·exact q e4
  ·rename_i q;simp only [not_or,Classical.not_not] at q;obtain ⟨rfl,rfl,rfl⟩:=q;exact ⟨i+1,⟨by rw [hi];simp,by omega⟩,by omega,by simp⟩
 ·rw [M (by omega),M (by omega)] at hi;have ğ:l=m:=hi.2 rfl;simp (maxSteps:=9^9) (disch:=omega) [-C,-F,-B,-G,-H,om,h1,Ă,ď,ğ]
theorem zt (s t:mv) (nl Đ:φ Υ) (z z':Ε) (hz:s.nodes≠ []->z=3) (ę:t.nodes≠ []->z'=3) (hl:s.nodes.length<1000000) (hm:t.nodes.length<1000000):
  ar cfg 39 [ψ [W V s.unit,δ s.num,ξ nl z (s.nodes.map dF)],ψ [W V t.unit,δ t.num,ξ Đ z' (t.nodes.map dF)]] []=P (Ρ (decide (s=t)), []):=by
 refine aa ad3 aaP ?_;have w:=Oo nl Đ z z' s.nodes t.nodes hz ę hl hm;obtain ⟨a,b,l⟩:=s;obtain ⟨a',b',l'⟩:=t;simp only at w⊢
 have hd:decide (mv.mk a b l=⟨a',b',l'⟩)=(decide (a=a')&&(decide (b=b')&&decide (l=l'))):=by rw [Bool.eq_iff_iff];simp
 rw [hd];generalize decide (l=l')=dl at*
 generalize l.map dF=E at*
 generalize l'.map dF=E' at*
 by_cases h1:a=a'
 ·by_cases h2:b=b'
  ·simp (maxSteps:=9^9) (disch:=omega) [-C,-F,-B,-G,-H,om,Rr,w,h1,h2]
  ·have Ī:(b==b')=false:=by simpa using h2
   simp (maxSteps:=9^9) (disch:=omega) [-C,-F,-B,-G,-H,om,Rr,w,h1,h2,Ī]
 ·have Ą:(a==a')=false:=by simpa using h1
  simp (maxSteps:=9^9) (disch:=omega) [-C,-F,-B,-G,-H,om,Rr,w,h1,Ą]
def fI (l:κ Cell):κ AV:=l.map im
theorem V8 (l:κ (Cell)):(fI l).length=Ê l:=by simp [fI]
theorem gE5 (l:κ (Cell)): ∀k (h:k<Ê l),(fI l)[k]?=P (ψ [W V l[k].1,W V l[k].2]):=fun k h=>get_map _ _ h
theorem iS: ∀l:κ Cell,ak (fI l)=τ
 | []=>rfl
 | x::r=>by simp [fI,im,ak,AV.plain];exact iS r
theorem V9 (nl:φ Υ) (z:Ε) (l:κ Cell) (hz:l≠ []->z=2) (hl:Ê l<1000000) (x:Cell): ∃i:Int,ar cfg 109 [ξ nl z (fI l),im x] []=P (W V i, [])/\(0<=i↔x∈l):=by
 obtain ⟨i,hi⟩: ∃i:Int,i=match l.findIdx? (fun y=>decide (x=y)) with | some k=>(k:Int) | none=> -1:=⟨_,rfl⟩
 refine ⟨i,aa aaQ Wa ?_,?_⟩
 case refine_2=>
  rw [hi];cases h:l.findIdx? (fun y=>decide (x=y)) with
  | none=>rw [List.findIdx?_eq_none_iff] at h;simp only [show¬ (0:Int)<= -1 by decide,false_iff];intro hx;simpa using h x hx
  | some k=>rw [List.findIdx?_eq_some_iff_getElem] at h;obtain ⟨h1,h2,_⟩:=h;have:x=l[k]:=of_decide_eq_true h2;simp only [show (0:Int)<=(k:Int) by omega,true_iff];rw [this];exact η h1
 have hE:=gE5 l;have Ă:=V8 l;generalize fI l=E at*
 obtain ⟨x1,x2⟩:=x;unfold im;simp only;simp (maxSteps:=9^9) (disch:=omega) [-C,-F,-B,-G,-H,om,Tj,Ă];refine Wp.az (fun (i:Ε)=>Ê l-i) (fun i=> [P (ξ nl z E),I,P (Γ 0 0),I,I,P (W V (Ê l)),P (W V i),I,I]) (fun _=> [χ 78 [W V x1,W V x2]]) (fun k=>i=(match (l.drop k).findIdx? (fun y=>decide ((x1,x2)=y)) with | some j=>(k:Int)+(j:Int) | none=> -1)/\k<=Ê l) ?_ 0 ⟨by simpa using hi,by omega⟩ (by simp) rfl;clear hi;rintro k ⟨hi,ą⟩;by_cases h1:k<Ê l
 ·have hg:=hE k h1;obtain rfl:=hz (ne_of_lt h1);rw [L h1,List.findIdx?_cons] at hi;clear hE;generalize l[k]=r at*
  obtain ⟨r1,r2⟩:=r;simp only at hg;simp (maxSteps:=9^9) (disch:=omega) [-C,-F,-B,-G,-H,om,h1,hg,Ă];split
  ·rename_i q;obtain ⟨rfl,rfl⟩:=q;simpa using hi.symm
  ·rename_i q;have hd:decide (((x1,x2):Cell)=(r1,r2))=false:=by simpa using q
   rw [hd] at hi;refine ⟨k+1,⟨?_,by omega⟩,by omega,by simp⟩;rw [hi];cases (l.drop (k+1)).findIdx? (fun y=>decide ((x1,x2)=y)) with
   | none=>rfl
   | some j=>show (k:Int)+((j+1:Ε):Int)=((k+1:Ε):Int)+(j:Int);omega
 ·rw [M (by omega)] at hi;subst hi;simp (maxSteps:=9^9) (disch:=omega) [-C,-F,-B,-G,-H,om,h1,Ă]
theorem Rs (nl:φ Υ) (z:Ε) (l:κ Cell) (hz:l≠ []->z=2) (hl:Ê l<1000000) (x:Cell):ar cfg 63 [ξ nl z (fI l),im x] []=P (Ρ (decide (x∈l)), []):=by
 refine aa ad4 aaR ?_;obtain ⟨i,h1,h2⟩:=V9 nl z l hz hl x;obtain ⟨x1,x2⟩:=x;unfold im at*
 simp only at h1⊢;generalize fI l=E at*
 by_cases h3:(x1,x2)∈l
 ·have h4:=h2.2 h3;simp (maxSteps:=9^9) (disch:=omega) [-C,-F,-B,-G,-H,om,Wb,h1,h3,h4]
 ·have h4: ¬ 0<=i:=fun h=>h3 (h2.1 h);simp (maxSteps:=9^9) (disch:=omega) [-C,-F,-B,-G,-H,om,Wb,h1,h3,h4]
theorem LG (c:Ct) (hc:c.ok) (root u:Int) (lang:ae) (h:(bX R aB c root lang u).2=0):ar cfg 66 [br c,W V root,δ lang,W V u] []=P (.aK [ξ I 3 (aN (bX R aB c root lang u).1),W V 0], []):=by
 unfold bX at h⊢;by_cases h0:aW c root lang=0
 ·rw [ι (by simpa using h0)] at h⊢;by_cases h1:de R c root u= []
  ·rw [Ζ h1] at h;cases h
  ·rw [ι h1]
   have e:((cellsOf u (bR c u lang)).map fun z=>(z,eV R aB c lang root z))=((cellsOf u (bR c u lang)).map fun z=>(z,zc R aB c lang root z)):=by have hr:=eh h0;congr 1;funext z;rw [Is,Ζ hr]
   rw [e];exact Lt c hc root u lang h0 h1
 ·rw [Ζ h0] at h;exact absurd h h0
set_option maxRecDepth 100000
def pX (t:ae):Ct:=⟨[[101,110], [100,101]], [⟨1, [100,101], [73,110,104,97,108,116],0⟩,⟨1, [101,110], [67,111,110,116,101,110,116,115],0⟩],
 [⟨7,0,1, [65], [84,111,119,110], [⟨1, [100,101], [65,108,108,101,115]⟩,⟨1, [101,110], [83,101,101,32,91,57,93]⟩],I,3⟩,⟨9,7,3, [],t, [],P τ,0⟩],I,1,I,4,I,6⟩
def JX:Ct:=pX [87,97,108,108,115]
def BH:Ct:=pX [71,97,116,101]
theorem JY (t:ae):(pX t).ok:=⟨by simp [pX],by simp [pX],by simp [pX],by simp [pX],by simp [pX],by simp [pX],fun s hs=>by
 simp only [pX,Χ,List.not_mem_nil,or_false] at hs;rcases hs with rfl | rfl <;> exact ⟨by simp,by simp⟩⟩
def L9:κ AV:= [ψ [W V 1,δ [100,101],δ [73,110,104,97,108,116],W V 0],ψ [W V 1,δ [101,110],δ [67,111,110,116,101,110,116,115],W V 0]]
def LH:κ AV:= [ψ [W V 1,δ [100,101],δ [65,108,108,101,115]],ψ [W V 1,δ [101,110],δ [83,101,101,32,91,57,93]]]
def Rt:κ AV:= [ψ [W V 7,W V 0,W V 1,δ [65],δ [84,111,119,110],ξ I 3 LH],ψ [W V 9,W V 7,W V 3,δ [],δ [87,97,108,108,115],ξ (P τ) 0 []]]
theorem Oq : ar cfg 34 [] [] = P (ψ [Μ 4 2, Μ 5 2, Μ 7 2], [χ 26 [Μ 4 2, Μ 5 2, Μ 7 2], Κ ⟨U, P 9, I⟩ 1 [], Κ ⟨U, P 80, I⟩ 4 [], Κ ⟨U, P 74, I⟩ 6 [],
     Κ ⟨U, P 9, I⟩ 1 [δ [101, 110], δ [100, 101]],
     Κ ⟨U, P 80, I⟩ 4 L9,
     Κ ⟨τ, P 76, I⟩ 3 LH,
     Κ ⟨U, P 74, I⟩ 6 Rt]) := by
 refine aa Wc Ot ?_;simp (maxSteps:=9^9) (disch:=omega) [-C,-F,-B,-G,-H,om,Ru,ab,L9,LH,Rt]
theorem Ou : ar cfg 34 [] [ω] = P (ψ [Μ 5 2, Μ 6 2, Μ 8 2], [ω, χ 26 [Μ 5 2, Μ 6 2, Μ 8 2], Κ ⟨U, P 9, I⟩ 1 [], Κ ⟨U, P 80, I⟩ 4 [], Κ ⟨U, P 74, I⟩ 6 [],
     Κ ⟨U, P 9, I⟩ 1 [δ [101, 110], δ [100, 101]],
     Κ ⟨U, P 80, I⟩ 4 L9,
     Κ ⟨τ, P 76, I⟩ 3 LH,
     Κ ⟨U, P 74, I⟩ 6 Rt]) := by
 refine aa Wc Ot ?_;simp (maxSteps:=9^9) (disch:=omega) [-C,-F,-B,-G,-H,om,Ru,ab,L9,LH,Rt]
set_option maxRecDepth 10000
set_option maxHeartbeats 4000000
theorem BI: ∀(l K:κ Cell),(l.foldl iw K).length<=Ê K+Ê l
 | [],K=>by simp
 | x::r,K=>by
  have h1:=BI r (iw K x);have h2:=um K x;simp only [List.foldl_cons,J];omega
theorem z8 (t:ae):(fO t).length<=Ê t:=by unfold fO;refine Δ (List.length_filterMap_le _ _) (by simp)
theorem Gd {N:Ε}: ∀(l:κ Fc),(∀f∈l,f.text.length<=N)->(l.flatMap cE).length<=Ê l*(N+1)
 | [],_=>by simp
 | f::r,h=>by
  have h1:=Gd r (fun g hg=>h g (by simp [hg]));have h2:=z8 f.text;have h3:=h f (by simp);rw [Ο,T,J,ϊ];have:(cE f).length=(fO f.text).length+1:=rfl;omega
theorem Iu {c:Ct} (hc:iq c) {u:Int} {lang:ae}:(bR c u lang).length<=32/\ ∀f∈bR c u lang,zZ c.ad f:=by
 unfold bR;split
 ·unfold ep;cases hs:bT c u with
  | none=>simp [ay]
  | some s=>obtain ⟨_,_,_,_,hm⟩:=fG hs;have ho:=hc.ai s hm;exact ⟨Δ (gF _ _) ho.FG,fun f hf=>ho.facts f (bH hf)⟩
 ·simp
theorem BJ (c:Ct) (root u:Int) (lang:ae):(bX R aB c root lang u).1.length<1000000:=by
 unfold bX;split
 ·simp
 ·rename_i h0;have h0:aW c root lang=0:=by simpa using h0
  split
  ·simp
  ·have hc:=cj (c5 (eh h0)).1;obtain ⟨h1,h2⟩:=Iu hc (u:=u) (lang:=lang);have h3:=Gd (N:=4096) _ (fun f hf=>(h2 f hf).len);have h4:=BI ((bR c u lang).flatMap cE) [(1,u),(2,u)];have h5:(bR c u lang).length*(4096+1)<=32*(4096+1):=Η _ h1;simp only [ν,cellsOf];simp only [J,θ] at h4;omega
theorem Ov (l:κ Sh) (root:Int): ∀(i:Ε),i<Ê l->Ê l<=400->(jF R l root i).length<=30*(i+1):=by
 intro i
 induction i using Nat.strongRecOn with
 | _ i ih=>
 intro ą hl;rw [mY R (List.getElem?_eq_getElem ą)];split
 ·simp only [J,θ];omega
 ·have hcnt:=Dw (so l l[i].par) (i+1);have hi:=Ν ((uv (so l l[i].par) (i+1):Ε):Int) (by omega) (by omega);split
  ·rename_i j hj;have Ĥ:=cN hj;simp only [List.length_take] at Ĥ;have:=ih j (by omega) (by omega) hl;simp only [T,J,θ];omega
  ·simp only [T,J,θ];omega
theorem Ge {c:Ct} (hc:iq c) (root u:Int):(de R c root u).length<=10000:=by
 rw [gM hc];unfold eL;split
 ·rename_i i hi;split
  ·have ą:=cN hi;have:=Ov c.ai root i ą (by have:=hc.G1;omega);have:=hc.G1;omega
  ·simp
 ·simp
theorem Ow {c:Ct} (hf:qM c=τ) (hc:iq c) {s:Sh} (hs:s∈c.ai) {f:Fc} (h:f∈s.facts):f.text.length<=60:=by unfold qM at hf;simp only [Q,ο] at hf;have h1:=hf.2.2.2 s hs;unfold z7 at h1;simp only [Q,ο] at h1;have h2:=h1.2 f h;unfold LC qL at h2;simp only [Q,S] at h2;have:=((hc.ai s hs).facts f h).len;omega
theorem Ox (n:Ε):(cU n).length<=6:=by
 unfold cU
 repeat' split
 all_goals decide
theorem Oy (n:Ε):(kT n).length<=2:=by unfold kT;split <;> simp
theorem LI {lev:Ε} {title mark:ae} {facts:κ (Ε×ae)} (h1:title.length<=64) (h2:Ê mark<=64) (h3: ∀f∈facts,f.2.length<=60): ∀p∈ie aB lev title mark facts,Ê p<=300:=by
 intro p hp;unfold ie at hp;simp only [Χ,Ω] at hp;have e:=eM;rcases hp with rfl | rfl | ⟨f,hf,rfl⟩
 ·have:=Ox lev;have:=e title;simp only [T,J];omega
 ·have:=e mark;simp only [T,J,jt,θ];omega
 ·have:=h3 f hf;have:=e f.2;have:=Oy f.1;unfold wq;simp only [T,J];omega
theorem BK {N:Ε}: ∀(l:κ ae),(∀p∈l,Ê p<=N)->(l.flatMap fun p=>p++ [(10:UInt8)]).length<=Ê l*(N+1)
 | [],_=>by simp
 | f::r,h=>by
  have h1:=BK r (fun g hg=>h g (by simp [hg]));have h3:=h f (by simp);rw [Ο,T,J,ϊ,T];simp only [J,θ];omega
theorem Dx {l:κ ae} (hl:l≠ []) (h: ∀p∈l,(10:UInt8)∉p):splitB 10 (l.flatMap fun p=>p++ [(10:UInt8)]).dropLast=l:=by
 have:=wk hl h;unfold pN at this;split at this
 ·exact Option.some.inj this
 ·cases this
theorem Aa {c:Ct} (hf:qM c=τ) (hc:iq c) {s:Sh} (hs:s∈c.ai) (order:κ ae):(((ay order s.facts).map ei).length<=32)/\(∀f∈(ay order s.facts).map ei,f.2.length<=60/\1<=f.1/\f.1<=64):=by refine ⟨by rw [ν];exact Δ (gF _ _) (hc.ai s hs).FG,fun f h=> ?_⟩;obtain ⟨g,hg,rfl⟩:=List.mem_map.1 h;have hm:=bH hg;have h1:=Ow hf hc hs hm;have h2:=((hc.ai s hs).facts g hm).Cm;have h3:=((hc.ai s hs).facts g hm).GM;unfold ei;simp only;omega
theorem zu {c:Ct} (hf:qM c=τ) (hc:iq c) {s:Sh} (hs:s∈c.ai) (order:κ ae):(iP aB order s).length<900000/\ ∀p∈splitB 10 (iP aB order s).dropLast,Ê p<=300:=by
 obtain ⟨h1,h2⟩:=Aa hf hc hs order;have ho:=hc.ai s hs;have h3:=LI (lev:=s.level.toNat) ho.wO ho.mark (fun f h=>(h2 f h).1);have h4:=FO Dr (fun s=>VT (by decide)) s.level.toNat s.title s.mark _ (fun f h=>(h2 f h).2);unfold iP wu;rw [Dx (by simp [ie]) h4];have h5:=BK _ h3;have h6:(ie aB s.level.toNat s.title s.mark ((ay order s.facts).map ei)).length<=34:=by unfold ie;simp only [J,ν] at h1⊢;omega
 have h7:(ie aB s.level.toNat s.title s.mark ((ay order s.facts).map ei)).length*(300+1)<=34*(300+1):=Η _ h6;exact ⟨by omega,h3⟩
theorem Oz {c:Ct} (hc:iq c) (order:κ ae) (el:Int) (h0:1<=el) (h9:el<=64):(fZ order c.av el (cX R el)).length<=1000:=by refine Δ (ny (N:=64) order el c.av _ _ ?_ (fun y hy=>(hc.av y hy).len)) (by omega);have:=Ν el (by omega) (by omega);simp [cX];omega
structure ad5 (c:Ct) (root:Int) (lang:ae):Prop where
 one: ∀u,(eV R aB c lang root (1,u)).length<=10000
 two: ∀u,(eV R aB c lang root (2,u)).length<900000
 ad6: ∀u,∀p∈splitB 10 (eV R aB c lang root (2,u)).dropLast,Ê p<=300
 more: ∀k u,k=3\/k=4->(eV R aB c lang root (k,u)).length<=1000
theorem Iv {c:Ct} (hf:qM c=τ) (root:Int) (lang:ae):ad5 c root lang:=by
 have key: ∀x:Cell,eV R aB c lang root x= []\/(iq c/\eV R aB c lang root x=z6 R aB c (aF c.ad lang) root x):=fun x=>by
  unfold eV;by_cases h:aO c lang=τ
  ·rw [Ζ h];exact .inr ⟨cj (c5 h).1,rfl⟩
  ·rw [ι h];exact .inl rfl
 have k2: ∀u,eV R aB c lang root (2,u)= []\/(iq c/\ ∃s∈c.ai,eV R aB c lang root (2,u)=iP aB (aF c.ad lang) s):=fun u=>by
  rcases key (2,u) with h | ⟨hc,h⟩
  ·exact .inl h
  ·rw [h];unfold z6 gy;simp only [show¬ (2:Int)=3 by decide,show¬ (2:Int)=1 by decide,Φ,Β,Ψ];split
   ·split
    ·rename_i i hi s hs;exact .inr ⟨hc,s,List.mem_of_getElem? hs,rfl⟩
    ·exact .inl rfl
   ·exact .inl rfl
 refine ⟨fun u=> ?_,fun u=> ?_,fun u=> ?_,fun k u hk=> ?_⟩
 ·rcases key (1,u) with h | ⟨hc,h⟩
  ·rw [h];simp
  ·rw [h];unfold z6 gy;simp only [show¬ (1:Int)=3 by decide,Φ,Β,Ψ];exact Ge hc root u
 ·rcases k2 u with h | ⟨hc,s,hs,h⟩
  ·rw [h];simp
  ·rw [h];exact (zu hf hc hs _).1
 ·rcases k2 u with h | ⟨hc,s,hs,h⟩
  ·rw [h];simp [splitB]
  ·rw [h];exact (zu hf hc hs _).2
 ·rcases key (k,u) with h | ⟨hc,h⟩
  ·rw [h];simp
  ·rw [h];unfold z6;rcases hk with rfl | rfl
   ·simp only [true_and];split
    ·simp
    ·rename_i hr;unfold gy;simp only [show¬ (3:Int)=1 by decide,show¬ (3:Int)=2 by decide,Φ,Β];exact Oz hc _ u (by omega) (by omega)
   ·unfold gy;simp only [show¬ (4:Int)=1 by decide,show¬ (4:Int)=2 by decide,show¬ (4:Int)=3 by decide,Φ,Β,Ψ];exact DZ (fun s hs=>⟨(hc.ai s hs).mark,(hc.ai s hs).wO⟩) u
open Go.Am Go.ChangeShapes Go.WideShapes Go.RowKit
theorem OB {m:Ε} {cs:κ AV} (h:ot Tryz.prog m 99 cs): ∃n:Cell×ae,True/\aR (jL (Tryz.prog.underlying 99)) cs=lR n:=by
 have Ħ:Tryz.prog.underlying 99=P (.struct (aG Tryz.prog 99)):=by kernel_rfl
 have ī:(aG Tryz.prog 99).toList.map (·.type)= [78,9]:=by kernel_rfl
 have Ġ:Tryz.prog.underlying 78=P (.struct (aG Tryz.prog 78)):=by kernel_rfl
 have ġ:(aG Tryz.prog 78).toList.map (·.type)= [3,3]:=by kernel_rfl
 obtain ⟨m,hs⟩:=h.struct Ħ;rw [ī] at hs;obtain ⟨a,r,rfl,ha,b,r2,rfl,hb,rfl⟩:=hs;obtain ⟨m2,ħ⟩:=ha.struct Ġ;rw [ġ] at ħ;obtain ⟨c,r3,rfl,hc,d,r4,rfl,hd,rfl⟩:=ħ;obtain ⟨x,rfl,_⟩:=hc.int (k:= V) (by kernel_rfl);obtain ⟨y,rfl,_⟩:=hd.int (k:= V) (by kernel_rfl);obtain ⟨s,rfl,_⟩:=hb.str (by kernel_rfl);exact ⟨((x,y),s),trivial,by rw [Ħ];rfl⟩
set_option maxHeartbeats 8000000
def Rv (o:φ mv):AV:=match o with | some s=>cH s | none=>oJ
theorem uo (q:Int×φ mv):eA q= .aK [Rv q.2,W V q.1]:=rfl
theorem zw {l:κ (Cell×ae)} {d:Int}: ∀{fs:κ (Ε×ae)} {ns:κ Nd},fW l d fs=P ns->Ê ns=Ê fs
 | [],ns,h=>by cases h;rfl
 | f::r,ns,h=>by
  unfold fW at h;split at h
  ·rename_i lab t ms h1 h2 h3;injection h with h;subst h;have:=zw h3;simp [this]
  ·cases h
theorem Gf {unit:Int} {l:κ (Cell×ae)} {N:Ε} (hN: ∀p∈splitB 10 ((ax l (2,unit)).getD []).dropLast,Ê p<=N) {s:mv} (h:(cu ag unit l).2=P s):s.nodes.length<1000000:=by
 unfold cu at h;split at h
 ·unfold H7 at h;split at h
  ·cases h
  ·split at h
   ·cases h
   ·rename_i x hx;obtain ⟨_,_,k,_⟩:=sD hx hN;split at h
    ·cases h
    ·rename_i ns Ĭ;injection h with h;subst h;have:=zw Ĭ;simp only [J,T];unfold y8;split <;> simp <;> omega
 ·cases h
theorem oj (o:φ mv): ∃u n nl z ns,Rv o= ψ [W V u,δ n,ξ nl z (List.map dF ns)]:=by
 cases o with
 | none=>exact ⟨0, [],P τ,0, [],rfl⟩
 | some s=>exact ⟨s.unit,s.num,I,3,s.nodes,rfl⟩
theorem aM (l:κ Nd):ak (l.map dF)=true:=df (fun _=>rfl) l
theorem JZ {l:κ (Cell×ae)} {N:Ε} (h: ∀r∈l,r.2.length<=N) (x:Cell):((ax l x).getD []).length<=N:=by
 unfold ax;cases hf:l.find? (fun y=>decide (y.1=x)) with
 | none=>simp
 | some y=>exact h y (List.mem_of_find?_eq_some hf)
theorem gB (it:Int->ae) (root:Int): ∀(l:κ Sh) (st:NS),(cK it root st l).length<=Ê l/\ ∀x∈cK it root st l,x.1∈l
 | [],st=>by simp [cK]
 | s::r,st=>by
  unfold cK;have h:=gB it root r (eF it root st s);split
  ·refine ⟨by simp only [J];omega,fun x hx=> ?_⟩;rcases List.mem_cons.1 hx with rfl | hx
   ·simp
   ·exact Θ _ (h.2 x hx)
  ·exact ⟨by simp only [J];omega,fun x hx=>Θ _ (h.2 x hx)⟩
theorem Gg {c:Ct} (hc:iq c) (order:κ ae) {x:Sh×ae} (hx:x.1∈c.ai):(kZ R order c x).nodes.length<1000000:=by have h1:=gF order x.1.facts;have h2:=(hc.ai _ hx).FG;unfold kZ oP;simp only [J,T,ν];split <;> simp <;> omega
