/- Strings at one byte: -/
import Derived.Lib.Index
import Derived.Test.YtfgbpngakkhdcaaGreatDoorEscM
import Derived.Test.YtfgbpngakkhdcaaGreatDoorAduM
open Bool renaming false->ζ,true->π,or_assoc->Ϛ,or_false->ϛ
open Go.Am.AV renaming aC->Ϡ,aK->ϡ,agg->ϒ,ah->ν,bool->τ,int->U,ptr->ψ,str->W
open Go.Am.af renaming sl->Ϝ,var->ι
open Go.IntKind renaming i64->V
open Go.Lib renaming decDigits->ϐ,index->ϣ,indexByte->κ,itoa->δ
open Int renaming toNat_natCast->ϔ
open List renaming length->Ê,append_assoc->Δ,append_nil->Λ,concat_eq_append->Ζ,cons_append->φ,count_le_length->Ι,drop_append->ϕ,drop_eq_getElem_cons->η,drop_eq_nil_of_le->ξ,drop_left'->ϖ,drop_of_length_le->Χ,eq_nil_or_concat->Ε,find?_nil->ϙ,getD_cons_zero->Ν,getD_eq_getElem?_getD->A,getElem?_append_right->Ξ,getElem?_eq_getElem->Z,getElem?_eq_none->Η,getElem?_replicate->Φ,getElem_mem->χ,getLast?_concat->ό,length->ϟ,length_append->Α,length_cons->μ,length_nil->ϊ,length_singleton->ϋ,map_map->Ϟ,map_nil->Ψ,map_replicate->C,map_set->F,mem_append->ϗ,mem_singleton->ϑ,nil_append->ω,replicate->θ,set_cons_succ->Τ,set_cons_zero->Υ,take_left'->ο,take_length->υ,take_of_length_le->Β
open Nat renaming le_refl->Κ,le_trans->ϝ,lt_or_ge->Ω,reduceAdd->Ϗ,zero_add->ϓ
open Option renaming none->O,some->Q,map_none->Ϙ
open Option.some renaming injEq->Ϣ
open Prod renaming fst->ε,snd->Ρ
open _root_ renaming Bool->Μ,List->γ,Nat->ρ,Option->Ο,UInt8->Γ,absurd->ύ,beq_eq_false_iff_ne->ώ,getElem?_neg->J,getElem?_pos->I,if_neg->Θ,if_pos->σ
set_option linter.all false
namespace Go.Proofs.YtfgbpngakkhdcaaGreatDoor
open Go.Am
set_option maxRecDepth 10000
set_option maxHeartbeats 4000000
theorem index_one (c:Γ): ∀s:ae,ϣ s [c]=κ s c
 | []=>rfl
 | b::l=>by
  simp only [ϣ,κ,index_one c l,List.isPrefixOf,Bool.and_true];by_cases h:b=c
  ·subst h;simp
  ·simp [h,Ne.symm h]
theorem Lk (s:ae) (c:Γ) (h2:Ê s<100000000):ar cfg 145 [W s,W [c]] []=Q (U V (κ s c), []):=by
 have hi:Ê s<4294967281:=by omega
 refine aa Z4 Vq ?_;simp (maxSteps:=9^9) (disch:=omega) [-C,-F,-A,-I,-J,om,SY,FY,hi,index_one]
theorem Ll (s:ae) (c:Γ):ar cfg 93 [W s,W [c]] []=Q (U V (s.count c), []):=by refine aa YI Sl ?_;simp (maxSteps:=9^9) (disch:=omega) [-C,-F,-A,-I,-J,om,T6,Ci,Lib.countByte]
def Lm (s:ae):AV:=match ee s with
 | some (a,b)=> ϡ [W a,W b,τ π]
 | none=> ϡ [W s,W [],τ ζ]
theorem re: ∀s:ae,κ s 32=(match ee s with
   | some (a,_)=>(Ê a:Int)
   | none=> -1)
 | []=>rfl
 | c::r=>by
  have ih:=re r;simp only [κ,ee];by_cases h:c=32
  ·subst h;simp
  ·have h':(c==32)=false:=by simpa using h
   rw [Θ h,h',ih];cases ee r with
   | none=>rfl
   | some p=>
    have hne:(((p.1.length:Int))== -1)=false:=by rw [ώ];omega
    simp [hne]
theorem Ih (s:ae) (hs:Ê s<1000000):ar cfg 179 [W s,W [32]] []=Q (Lm s, []):=by
 have h:ar cfg 210 [W s,W [32]] []=Q (Lm s, []):=by
  have hi:Ê s<4294967281:=by omega
  refine aa Z5 Vr ?_;have hx:=index_one 32 s;rw [re] at hx;unfold Lm;cases hc:ee s with
  | none=>rw [hc] at hx;simp (maxSteps:=9^9) (disch:=omega) [-C,-F,-A,-I,-J,om,N4,FY,hi,hx]
  | some p=>
   obtain ⟨a,b⟩:=p;rw [hc] at hx;simp only at hx;obtain ⟨h1,_⟩:=eX hc;have ht:s.take (Ê a)=a:=by rw [h1];exact ο rfl
   have hl:Ê s=Ê a+1+Ê b:=by rw [h1];simp;omega
   have hd:(s.take (Ê s)).drop (Ê a+1)=b:=by rw [υ,h1,ϕ,Χ (by omega)];simp
   rw [hl] at hd hi;clear h1 hc;simp (maxSteps:=9^9) (disch:=omega) [-C,-F,-A,-I,-J,om,N4,FY,hi,hx,ht,hd,hl]
 refine aa Z6 Vs ?_;unfold Lm at h⊢;cases hc:ee s with
 | none=>rw [hc] at h;simp (maxSteps:=9^9) (disch:=omega) [-C,-F,-A,-I,-J,om,N5,h]
 | some p=>rw [hc] at h;simp (maxSteps:=9^9) (disch:=omega) [-C,-F,-A,-I,-J,om,N5,h]
theorem ui (s:ae) (hs:Ê s<1000000):ar cfg 207 [W s,W [10]] []=Q (τ (decide (s.getLast?=Q 10)), []):=by
 refine aa Z7 Vt ?_;rcases Ε s with rfl | ⟨u,x,rfl⟩
 ·simp (maxSteps:=9^9) (disch:=omega) [-C,-F,-A,-I,-J,om,N6]
 ·have hl:(u++ [x]).length=Ê u+1:=by simp
  have hd:((u++ [x]).take (Ê u+1)).drop (Ê u)= [x]:=by rw [Β (by simp),ϖ rfl]
  have Ō:(u++ [x]).drop (Ê u)= [x]:=ϖ rfl;have hg:decide ((u++ [x]).getLast?=Q 10)=(x==10):=by simp;rfl
  have e1:((Ê u:Int)+1-1).toNat=Ê u:=by omega
  rw [Ζ] at*
  rw [hg];generalize u++ [x]=s at*
  simp (maxSteps:=9^9) (disch:=omega) [-C,-F,-A,-I,-J,om,N6,hl,hd,Ō,e1]
theorem N7 (s:ae) (hs:Ê s<1000000):ar cfg 176 [W s,W [10]] []=Q (τ (decide (s.getLast?=Q 10)), []):=by refine aa Z8 Vu ?_;simp (maxSteps:=9^9) (disch:=omega) [-C,-F,-A,-I,-J,om,SZ,ui s hs]
theorem Ln (u:ae) (hs:Ê u<900000):ar cfg 178 [W (u++ [10]),W [10]] []=Q (W u, []):=by
 have h:ar cfg 209 [W (u++ [10]),W [10]] []=Q (W u, []):=by
  refine aa Z9 Vv ?_;have h1:=ui (u++ [10]) (by simp;omega);rw [show decide ((u++ [(10:Γ)]).getLast?=Q 10)=π by simp] at h1;have hl:(u++ [(10:Γ)]).length=Ê u+1:=by simp
  have ht:(u++ [(10:Γ)]).take (Ê u)=u:=ο rfl;generalize u++ [(10:Γ)]=s at*
  simp (maxSteps:=9^9) (disch:=omega) [-C,-F,-A,-I,-J,om,S0,h1,hl,ht]
 refine aa aaa Vw ?_;simp (maxSteps:=9^9) (disch:=omega) [-C,-F,-A,-I,-J,om,S1,h]
theorem Bw {c:Γ}: ∀{p:γ Γ} (r:γ Γ),c∉p->κ (p++c::r) c=(Ê p:Int)
 | [],r,_=>by simp [κ]
 | x::p,r,h=>by
  simp only [List.mem_cons,not_or] at h;have ih:=Bw r h.2;have hx:(x==c)=false:=by simpa using Ne.symm h.1
  have hne:(((Ê p:Int))== -1)=false:=by rw [ώ];omega
  simp only [φ,κ,hx,Bool.false_eq_true,if_false,ih,hne,μ];omega
theorem zi {c:Γ}: ∀{r:γ Γ},2<=(splitB c r).length-> ∃p q,r=p++c::q/\c∉p
 | [],h=>by simp [splitB] at h
 | x::r,h=>by
  by_cases hx:x=c
  ·exact ⟨[],r,by simp [hx],by simp⟩
  ·have h2:2<=(splitB c r).length:=by
    simp only [splitB,Θ hx] at h;split at h
    ·rename_i e;rw [e];simpa using h
    ·simp at h
   obtain ⟨p,q,h3,h4⟩:=zi h2;exact ⟨x::p,q,by rw [h3];rfl,by simp [Ne.symm hx,h4]⟩
theorem Ii {c:Γ} {r:γ Γ} (h:(splitB c r).length=1):splitB c r= [r]:=by apply Bk;intro hm;obtain ⟨p,q,rfl⟩:=List.append_of_mem hm;rw [jU] at h;simp at h
theorem FZ (P:γ (γ Γ)) (k:ρ) (x:γ Γ):(P.map AV.str++θ (k+1) (AV.str [])).set (Ê P) (W x)=(P++ [x]).map AV.str++θ k (AV.str []):=by rw [List.replicate_succ,List.set_append_right _ _ (by simp)];simp
theorem Lo (s:γ Γ) (c:Γ) (hs:Ê s<100000000):ar cfg 177 [W s,W [c]] []=Q (ν O 1 ((splitB c s).map AV.str), []):=by
 have h1:ar cfg 208 [W s,W [c],U V 0,U V (-1)] []=Q (ν O 1 ((splitB c s).map AV.str), []):=by
  refine aa aab Vx ?_;have hc:=Ll s c;have hN:=jU c s;have hle:s.count c<=Ê s:=Ι;generalize s.count c=N at*
  have hmin:((N:Int)+1<=(Ê s:Int)+1):=by omega
  simp (maxSteps:=9^9) (disch:=omega) [-C,-F,-A,-I,-J,om,S4,hc]
  refine Wp.az (fun (a:γ (γ Γ)×γ Γ)=>N-a.1.length) (fun a=> [Q (W a.2),Q (W [c]),Q (U V 0),Q (U V N),O,Q (Ϡ 0 (N+1)),Q (U V a.1.length),O,O,O,O,O,O,O,O,O,O,O,O])
   (fun a=> [Ϝ ⟨ζ,Q 9,O⟩ 1 (a.1.map AV.str++θ (N+1-a.1.length) (AV.str []))])
   (fun a=>a.1.length<=N/\splitB c s=a.1++splitB c a.2/\a.2.length<=Ê s) ?_ ([],s) ⟨by simp,rfl,Κ _⟩ (by simp) (by simp)
  rintro ⟨P,r⟩ ⟨hP,ĥ,đ⟩;simp only at hP ĥ đ⊢
  have hr:(splitB c r).length=N+1-Ê P:=by have:=congrArg ϟ ĥ;rw [Α] at this;omega
  by_cases hlt:Ê P<N
  ·obtain ⟨p,q,rfl,hp⟩:=zi (by rw [hr];omega);have hi:=Lk (p++c::q) c (by omega);rw [Bw q hp] at hi;rw [sv q hp] at ĥ;have hk:N+1-Ê P=(N-Ê P)+1:=by omega
   have ğ:(P.map AV.str++θ (N+1-Ê P) (AV.str [])).length=N+1:=by simp;omega
   have Ā:(P.map AV.str++θ (N+1-Ê P) (AV.str []))[Ê P]?=Q (W []):=by rw [Ξ (by simp),Φ,σ (by simp;omega)]
   have ĉ:=FZ P (N-Ê P) p;rw [<-hk] at ĉ;have ht:(p++c::q).take (Ê p)=p:=ο rfl
   have hd:((p++c::q).take (p++c::q).length).drop (Ê p+1)=q:=by rw [υ,ϕ,Χ (by omega)];simp
   have hl:(p++c::q).length=Ê p+1+Ê q:=by simp;omega
   have hp2:Ê p+1<=Ê s:=by omega
   generalize P.map AV.str++θ (N+1-Ê P) (AV.str [])=L at*
   generalize hR:p++c::q=R at*
   rw [hl] at hd;simp (maxSteps:=9^9) (disch:=omega) [-C,-F,-A,-I,-J,om,hi,ğ,Ā,ĉ,ht,hd,hl];refine ⟨P++ [p],q,⟨by simp;omega,by rw [ĥ];simp,by omega⟩,by simp;omega,⟨rfl,by simp⟩,?_⟩;have e:N+1-(P++ [p]).length=N-Ê P:=by simp
   rw [e];simp
  ·obtain rfl:Ê P=N:=by omega
   have h1:=Ii (c:=c) (r:=r) (by rw [hr];omega);rw [h1] at ĥ;have ĉ:=FZ P 0 r;have e:Ê P+1-Ê P=0+1:=by omega
   rw [e,ĥ];have ğ:(P.map AV.str++θ (0+1) (AV.str [])).length=Ê P+1:=by simp
   have Ā:(P.map AV.str++θ (0+1) (AV.str []))[Ê P]?=Q (W []):=by rw [Ξ (by simp),Φ,σ (by simp)]
   generalize P.map AV.str++θ (0+1) (AV.str [])=L at*
   rw [List.replicate_zero,Λ] at ĉ;simp (maxSteps:=9^9) (disch:=omega) [-C,-F,-A,-I,-J,om,ğ,Ā,ĉ]
   try exact Β (by simp)
 refine aa aac Vy ?_;simp (config:={maxSteps:=1000000}) (disch:=omega) [-C,-F,-A,-I,-J,wrap_i64,p9,lg,lh,jM,S5,h1]
theorem qA (s:ae) (hs:Ê s<190000): ∃(t:ae) (q:Μ),ar cfg 181 [W s] []=Q (ϡ [W t,τ q], [])/\ag s=(if q=π then Q t else O):=by
 have h:=Vz s hs;rw [Bx] at h;cases hu:ag s with
 | none=>rw [hu] at h;exact ⟨[],ζ,h,rfl⟩
 | some t=>rw [hu] at h;exact ⟨t,π,h,rfl⟩
def rf:Ο (ρ×ae)->AV
 | some (n,t)=> ϡ [ϒ [U V n,W [],W t],τ π]
 | none=> ϡ [ϒ [U V 0,W [],W []],τ ζ]
theorem Q6 (line:ae) (hl:Ê line<190000):ar cfg 182 [W line] []=Q (rf (fS ag line), []):=by
 refine aa aad VA ?_;have h1:=Ih line (by omega);unfold Lm at h1;unfold fS;cases hc:ee line with
 | none=>rw [hc] at h1;obtain ⟨v,b,h2,_,_⟩:=xB line (by omega);obtain ⟨t,q,h3,_⟩:=qA [] (by simp);simp (maxSteps:=9^9) (disch:=omega) [-C,-F,-A,-I,-J,om,wz,h1,h2,h3,ab,rf]
 | some p=>
  obtain ⟨num,rest⟩:=p;rw [hc] at h1;obtain ⟨e1,_⟩:=eX hc;have hn:Ê num<190000:=by rw [e1] at hl;simp at hl;omega
  have hr:Ê rest<190000:=by rw [e1] at hl;simp at hl;omega
  obtain ⟨v,b,h2,e2,hv⟩:=xB num (by omega);obtain ⟨t,q,h3,e3⟩:=qA rest hr;simp only [e2,e3];clear hc e1 hl e3;cases b with
  | true=>simp (maxSteps:=9^9) (disch:=omega) [-C,-F,-A,-I,-J,om,wz,h1,h2,h3,ab,rf]
  | false=>
   cases q with
   | false=>simp (maxSteps:=9^9) (disch:=omega) [-C,-F,-A,-I,-J,om,wz,h1,h2,h3,ab,rf]
   | true=>
    have hne:num≠ []:=by rintro rfl;simp [lj] at e2
    match num,hne with
    | c::num',_=>
     by_cases g1:t= []
     ·subst g1;simp (maxSteps:=9^9) (disch:=omega) [-C,-F,-A,-I,-J,om,wz,h1,h2,h3,ab,rf]
     by_cases g2:c=48
     ·subst g2;simp (maxSteps:=9^9) (disch:=omega) [-C,-F,-A,-I,-J,om,wz,h1,h2,h3,ab,rf,Ν,g1,aq]
     have Ū: ¬ ((c.toNat:Int)=48):=fun h=>g2 (UInt8.toNat_inj.mp (by show _=48;omega));have w1:(t== [])=false:=by simpa using g1
     have hw:IntKind.i64.wrap (v:Int)=v:=wrap_i64 (by omega) (by omega);by_cases g3:64<v
     ·simp (maxSteps:=9^9) (disch:=omega) [-C,-F,-A,-I,-J,om,wz,h1,h2,h3,ab,rf,Ν,g1,g2,Ū,g3,aq,w1,hw]
     ·simp (maxSteps:=9^9) (disch:=omega) [-C,-F,-A,-I,-J,om,wz,h1,h2,h3,ab,rf,Ν,g1,g2,Ū,g3,aq,w1,hw]
set_option maxHeartbeats 8000000
def DJ (f:ρ×ae):AV:= ϒ [U V f.1,W [],W f.2]
theorem gE3 (l:γ (ρ×ae)): ∀k (h:k<Ê l),(l.map DJ)[k]?=Q (ϒ [U V l[k].1,W [],W l[k].2]):=fun k h=>get_map _ _ h
theorem Lp (w:ae):rq w [[102,111,110,100,115], [115,101,114,105,101,115], [102,105,108,101], [105,116,101,109]] 0+1=(jJ w:Int):=by
 unfold jJ;have t1:cU 1= [102,111,110,100,115]:=rfl;have t2:cU 2= [115,101,114,105,101,115]:=rfl;have t3:cU 3= [102,105,108,101]:=rfl;have t4:cU 4= [105,116,101,109]:=rfl;rw [t1,t2,t3,t4];simp only [rq,beq_iff_eq]
 repeat' split
 all_goals rfl
theorem F0 (w:ae):jJ w<=4:=by
 unfold jJ
 repeat' split
 all_goals omega
def iE:γ (ρ×ae)->γ ae->γ (ρ×ae)×Μ
 | acc, []=>(acc,π)
 | acc,l::r=>match fS ag l with
  | some (n,t)=>(match acc.getLast? with
   | some q=>if n<=q.1 then (acc,ζ) else iE (acc++ [(n,t)]) r
   | none=>iE (acc++ [(n,t)]) r)
  | none=>(acc,ζ)
theorem Lq {l:ae} {n:ρ} {t:ae} (h:fS ag l=Q (n,t)):1<=n:=by
 unfold fS at h;split at h
 ·rename_i num rest hc;split at h
  ·rename_i n' t' hp hu;split at h
   ·cases h
   ·rename_i hn;cases h;exact (JE hp (fun h0=>hn (.inr (.inl h0))) (by omega)).2
  ·cases h
 ·cases h
theorem By: ∀(r:γ ae) (acc:γ (ρ×ae)),∃m,(iE acc r).1=acc++m
 | [],acc=>⟨[],by simp [iE]⟩
 | l::r,acc=>by
  unfold iE;cases fS ag l with
  | none=>exact ⟨[],by simp⟩
  | some p=>
   obtain ⟨n,t⟩:=p;obtain ⟨m,hm⟩:=By r (acc++ [(n,t)]);simp only;cases acc.getLast? with
   | none=>exact ⟨(n,t)::m,by simp only;rw [hm];simp⟩
   | some q=>
    simp only;split
    ·exact ⟨[],by simp⟩
    ·exact ⟨(n,t)::m,by rw [hm];simp⟩
theorem F1: ∀(r:γ ae) (acc:γ (ρ×ae)),iO ag (match acc.getLast? with | some q=>q.1 | none=>0) r=if (iE acc r).2=π then Q ((iE acc r).1.drop (Ê acc)) else O
 | [],acc=>by simp [iO,iE]
 | l::r,acc=>by
  unfold iO iE;cases hf:fS ag l with
  | none=>simp
  | some p=>
   obtain ⟨n,t⟩:=p;have hp:=Lq hf;have ih:=F1 r (acc++ [(n,t)]);rw [ό] at ih;simp only at ih⊢;obtain ⟨m,hm⟩:=By r (acc++ [(n,t)])
   have ė:(iO ag n r).map ((n,t):: ·)=if (iE (acc++ [(n,t)]) r).2=π then Q ((iE (acc++ [(n,t)]) r).1.drop (Ê acc)) else none:=by rw [ih,hm];cases (iE (acc++ [(n,t)]) r).2 <;> simp
   cases hq:acc.getLast? with
   | none=>simp only;rw [Θ (by omega)];exact ė
   | some q=>
    simp only;by_cases hn:n<=q.1
    ·rw [σ hn,σ hn];simp
    ·rw [Θ hn,Θ hn];exact ė
theorem Lr (v:ae) (hv:Ê v<900000) (hl: ∀p∈splitB 10 v.dropLast,Ê p<190000):
  ∃(lev:ρ) (mark title:ae) (facts:γ (ρ×ae)) (b:Μ),ar cfg 133 [W v] []=Q (ϡ [ϒ [U V 0,U V 0,U V lev,W mark,W title,ν O 3 (facts.map DJ)],τ b], [])/\fV ag v=(if b=π then Q ⟨lev,title,mark,facts⟩ else O)/\(b=true->1<=lev/\lev<=4):=by
 have h1:=N7 v (by omega);unfold fV pN;by_cases Ē:v.getLast?=Q 10
 case neg=>
  rw [Θ Ē];rw [show decide (v.getLast?=Q 10)=ζ by simpa using Ē] at h1;refine ⟨0, [], [], [],ζ,aa wA pU ?_,rfl,by simp⟩;simp (maxSteps:=9^9) (disch:=omega) [-C,-F,-A,-I,-J,om,oI,h1,ab]
 rw [σ Ē];rw [show decide (v.getLast?=Q 10)=π by simpa using Ē] at h1
 obtain ⟨u,rfl⟩: ∃u,v=u++ [10]:=by
  rcases Ε v with rfl | ⟨u,x,rfl⟩
  ·simp at Ē
  ·rw [Ζ] at Ē⊢;simp at Ē;exact ⟨u,by rw [Ē]⟩
 rw [List.dropLast_concat] at hl⊢;have ū:Ê u<900000:=by simp at hv;omega
 have h2:=Ln u ū;have h3:=Lo u 10 (by omega)
 have ō:(splitB 10 u).length<1000000:=by have h:=jU 10 u;have h2:u.count 10<=Ê u:=Ι;omega
 generalize splitB 10 u=P at*
 generalize u++ [10]=v at*
 clear Ē hv ū
 match P,hl,ō with
 | [],_,_=>refine ⟨0, [], [], [],ζ,aa wA pU ?_,rfl,by simp⟩;simp (maxSteps:=9^9) (disch:=omega) [-C,-F,-A,-I,-J,om,oI,h1,h2,h3,ab]
 | [a],_,_=>refine ⟨0, [], [], [],ζ,aa wA pU ?_,rfl,by simp⟩;simp (maxSteps:=9^9) (disch:=omega) [-C,-F,-A,-I,-J,om,oI,h1,h2,h3,ab]
 | a::b::r,hl,ō=>
  have ha:=hl a (by simp);have hb:=hl b (by simp);have c1:=Ih a (by omega);have c2:=Ih b (by omega);unfold Lm at c1 c2
  have ē: ∀w nl,ar cfg 89 [ν nl 1 [W [102,111,110,100,115],W [115,101,114,105,101,115],W [102,105,108,101],W [105,116,101,109]],W w] []=Q (U V ((jJ w:Int)-1), []):=fun w nl=>by
   have h:=mA nl 1 [[102,111,110,100,115], [115,101,114,105,101,115], [102,105,108,101], [105,116,101,109]] (fun _=>rfl) (by simp) w;have e:=Lp w;rw [show rq w [[102,111,110,100,115], [115,101,114,105,101,115], [102,105,108,101], [105,116,101,109]] 0=(jJ w:Int)-1 by omega] at h;exact h
  have ł:=F0;cases Ħ:ee a with
  | none=>
   obtain ⟨t0,q0,u0,_⟩:=qA [] (by simp);have hd:pO ag a=none:=by unfold pO;rw [Ħ]
   refine ⟨jJ a, [], [], [],ζ,aa wA pU ?_,by simp [ic,hd],by simp⟩;rw [Ħ] at c1;simp only at c1;have hT:=ē a;have Ŭ:=ł a;clear ē ł c2 hd;generalize jJ a=T at*
   simp (maxSteps:=9^9) (disch:=omega) [-C,-F,-A,-I,-J,om,oI,h1,h2,h3,c1,hT,u0,ff,cW,ab]
  | some p=>
   obtain ⟨w,ra⟩:=p;rw [Ħ] at c1;simp only at c1;obtain ⟨e1,_⟩:=eX Ħ;have ŭ:Ê ra<190000:=by rw [e1] at ha;simp at ha;omega
   obtain ⟨t,q,u1,u2⟩:=qA ra ŭ
   have hd:pO ag a=if q=π/\jJ w≠0/\t≠ [] then Q (jJ w,t) else none:=by
    unfold pO;rw [Ħ];simp only [u2];cases q with
    | false=>simp
    | true=>
     simp only [if_true];by_cases g1:jJ w=0
     ·simp [g1]
     ·by_cases g2:t= []
      ·simp [g2]
      ·simp [g1,g2]
   have hT:=ē w;have Ŭ:=ł w;clear ē ł Ħ e1 u2;generalize jJ w=T at*
   by_cases g:q=π/\T≠0/\t≠ []
   case neg=>
    rw [Θ g] at hd;refine ⟨T, [], [], [],ζ,aa wA pU ?_,by simp [ic,hd],by simp⟩;clear c2 hd;cases q with
    | false=>simp (maxSteps:=9^9) (disch:=omega) [-C,-F,-A,-I,-J,om,oI,h1,h2,h3,c1,hT,u1,ff,cW,ab]
    | true=>
     by_cases g1:T=0
     ·subst g1;simp (maxSteps:=9^9) (disch:=omega) [-C,-F,-A,-I,-J,om,oI,h1,h2,h3,c1,hT,u1,ff,cW,ab]
     ·have g2:t= []:=by
       by_cases g2:t= []
       ·exact g2
       ·exact ύ ⟨rfl,g1,g2⟩ g
      subst g2;simp (maxSteps:=9^9) (disch:=omega) [-C,-F,-A,-I,-J,om,oI,h1,h2,h3,c1,hT,u1,g1,ff,cW,ab]
   rw [σ g] at hd;obtain ⟨rfl,g1,g2⟩:=g;cases Ġ:ee b with
   | none=>
    obtain ⟨t0,q0,u0,_⟩:=qA [] (by simp);have hm:qX ag b=none:=by unfold qX;rw [Ġ]
    rw [Ġ] at c2;simp only at c2;refine ⟨T,t0,t, [],ζ,aa wA pU ?_,by simp [ic,hd,hm],by simp⟩;clear hd hm Ġ;simp (maxSteps:=9^9) (disch:=omega) [-C,-F,-A,-I,-J,om,oI,h1,h2,h3,c1,c2,hT,u1,u0,g1,g2,ff,cW,ab]
   | some p=>
    obtain ⟨w2,rb⟩:=p;rw [Ġ] at c2;simp only at c2;obtain ⟨e1,_⟩:=eX Ġ;have Ů:Ê rb<190000:=by rw [e1] at hb;simp at hb;omega
    obtain ⟨m,q2,v1,v2⟩:=qA rb Ů
    have hm:qX ag b=if q2=π/\w2=jt then Q m else none:=by
     unfold qX;rw [Ġ];simp only [v2];by_cases g3:w2=jt
     ·cases q2 <;> simp [g3]
     ·simp [g3]
    clear Ġ e1 v2;by_cases g:q2=π/\w2=jt
    case neg=>
     rw [Θ g] at hm;refine ⟨T,m,t, [],ζ,aa wA pU ?_,by simp [ic,hd,hm],by simp⟩;clear hd hm;cases q2 with
     | false=>simp (maxSteps:=9^9) (disch:=omega) [-C,-F,-A,-I,-J,om,oI,h1,h2,h3,c1,c2,hT,u1,v1,g1,g2,ff,cW,ab]
     | true=>
      have g4: ¬ w2= [109,97,114,107]:=fun h=>g ⟨rfl,h⟩;have g5:(w2 != [109,97,114,107])=true:=by simpa using g4
      simp (maxSteps:=9^9) (disch:=omega) [-C,-F,-A,-I,-J,om,oI,h1,h2,h3,c1,c2,hT,u1,v1,g1,g2,g4,g5,ff,cW,ab]
    rw [σ g] at hm;obtain ⟨rfl,rfl⟩:=g;have ů: ∀p∈r,Ê p<190000:=fun p hp=>hl p (by simp [hp]);have Ű:(au (a::b::r)).length=Ê r+2:=by simp
    have ű:(au (a::b::r)).drop 2=au r:=rfl;have hT1:1<=T:=by omega
    suffices H: ∃(facts:γ (ρ×ae)) (ok:Μ),ar cfg 133 [W v] []=Q (ϡ [ϒ [U V 0,U V 0,U V T,W m,W t,ν O 3 (facts.map DJ)],τ ok], [])/\iO ag 0 r=if ok=π then Q facts else O by
     obtain ⟨facts,ok,k1,k2⟩:=H;refine ⟨T,m,t,facts,ok,k1,?_,fun _=>⟨hT1,Ŭ⟩⟩;simp only [ic,hd,hm,k2];cases ok <;> rfl
    clear hd hm;have hbr:Ê r<1000000:=by simp at ō;omega
    rw [show jt= [109,97,114,107] from rfl] at c2;clear ha hb hl ŭ Ů;have Ĭ:=F1 r [];refine ⟨(iE [] r).1,(iE [] r).2,aa wA pU ?_,by simpa using Ĭ⟩;clear Ĭ;have hE: ∀k (h:k<Ê r),(au r)[k]?=Q (W r[k]):=fun k h=>by simp [au,h]
    have đ:=ke r;generalize hG:iE [] r=G at*
    simp (maxSteps:=9^9) (disch:=omega) [-C,-F,-A,-I,-J,om,oI,h1,h2,h3,c1,c2,hT,u1,v1,g1,g2,Ű,ű,ff,cW,ab];clear h1 h2 h3 c1 c2 hT u1 v1 Ű ű
    refine Wp.az (fun (a:ρ×γ (ρ×ae))=>Ê r-a.1) (fun a=> [O,Q (ψ 0 0),O,Q (ψ 2 0),O,O,O,O,O,O,O,O,O,O,O,O,O,O,O,O,O,O,O,O,O,O,O,O,O,Q (ν O 1 (au r)),Q (U V (Ê r)),Q (U V a.1),O,O,O,O,O,O]) (fun a=> [ι 74 [U V 0,U V 0,U V 0,W [],W [],Ϡ 1 0],Ϝ ⟨ζ,Q 76,O⟩ 3 [],ι 74 [U V 0,U V 0,U V T,W m,W t,Ϡ 3 a.2.length],Ϝ ⟨ζ,Q 76,O⟩ 3 (a.2.map DJ),Ϝ ⟨ζ,Q 9,O⟩ 1 [W [102,111,110,100,115],W [115,101,114,105,101,115],W [102,105,108,101],W [105,116,101,109]]])
     (fun a=>G=iE a.2 (r.drop a.1)/\a.1<=Ê r/\a.2.length<=a.1) ?_ (0, []) ⟨by simpa using hG.symm,by simp,by simp⟩ (by simp [au];exact Β (by simp)) (by simp)
    rintro ⟨i,acc⟩ ⟨hi,Ę,Ŏ⟩;simp only at hi Ę Ŏ⊢;rw [hi];clear hi hG;by_cases q1:i<Ê r
    ·have hg:=hE i q1;have Ď:=Q6 r[i] (ů _ (χ q1));rw [η q1];simp only [iE];have ĭ:=bW DJ acc;generalize r[i]=line at*
     clear hE ů;cases hf:fS ag line with
     | none=>rw [hf] at Ď;unfold rf at Ď;simp only at Ď⊢;simp (maxSteps:=9^9) (disch:=omega) [-C,-F,-A,-I,-J,om,q1,hg,Ď,ab,ĭ,đ]
     | some p=>
      obtain ⟨n,x⟩:=p;rw [hf] at Ď;unfold rf at Ď;simp only at Ď⊢;rcases Ε acc with rfl | ⟨ă,q,rfl⟩
      ·simp only [List.getLast?_nil];simp (maxSteps:=9^9) (disch:=omega) [-C,-F,-A,-I,-J,om,q1,hg,Ď,ab,đ];exact ⟨i+1, [(n,x)],⟨rfl,by omega,by simp⟩,by omega,by simp,by simp,by simp [DJ]⟩
      ·rw [Ζ] at*
       rw [ό];simp only;have Ų:((ă++ [q]).map DJ)[ă.length]?=Q (ϒ [U V q.1,W [],W q.2]):=by simp [DJ]
       have ŏ:(ă++ [q]).length=ă.length+1:=by simp
       have e1:((ă.length:Int)+1-1).toNat=ă.length:=by omega
       have e2:(0:Int)<(ă.length:Int)+1:=by omega
       rw [ŏ] at ĭ Ŏ;generalize hac:ă++ [q]=acc at*
       by_cases q2:n<=q.1
       ·rw [σ q2];simp (maxSteps:=9^9) (disch:=omega) [-C,-F,-A,-I,-J,om,q1,hg,Ď,ab,ĭ,đ,ŏ,Ų,e1,e2,q2]
       ·rw [Θ q2];simp (maxSteps:=9^9) (disch:=omega) [-C,-F,-A,-I,-J,om,q1,hg,Ď,ab,ĭ,đ,ŏ,Ų,e1,e2,q2];exact ⟨i+1,acc++ [(n,x)],⟨rfl,by omega,by simp;omega⟩,by omega,by simp,by simp;omega,by simp [DJ]⟩
    ·rw [ξ (by omega)];simp (maxSteps:=9^9) (disch:=omega) [-C,-F,-A,-I,-J,om,q1,iE,ab,đ]
set_option maxHeartbeats 4000000
theorem Ij {bs l:γ af} (hs:shut (Ê bs) bs=π) (hl: ∀m,shut m l=π) {a:AV} (ha:a= .cn\/a= ψ (Ê bs) 0) (s:ae):TO (bG bs a s++l) (Ê bs) (Ê bs+1) a s:=by
 unfold bG;refine ⟨?_,?_,by omega,ha,by simp,by simp,?_⟩
 ·rw [Δ,Ak];rfl
 ·rw [Δ,eN];rfl
 ·rw [eO,eO,jN (by simp) hs,hl];rcases ha with rfl | rfl <;> simp [shut,aA,AV.under]
theorem Ik {bs l:γ af} {a:AV} {s t:ae}:jw (bG bs a s++l) (Ê bs) (Ê bs+1) t=bG bs (ψ (Ê bs) 0) t++l:=by unfold jw bG;rw [Δ,xD,dt,Δ];rfl
theorem Q7 (c:Ct) (hc:c.ok) (u:Int) (lang:ae) (hr:aO c lang=π):ar cfg 102 [br c,U V u,W lang] []=Q (W (match bT c u with
  | some s=>uh δ aB (ec s.level) s.title s.mark (ay (aF c.ad lang) s.facts)
  | none=> []), []):=by
 have h1:=ME c hc u;obtain ⟨nl,z,h2,Ő⟩:=Ap c hc u lang;have hch:bR c u lang=ay (aF c.ad lang) (ep c u):=by unfold bR;rw [σ hr]
 rw [hch] at h2 Ő;have hk:dU c=0:=by unfold aO at hr;simp at hr;exact hr.1
 have hok:=cj hk;refine aa aae VB ?_;cases hx:aL c.ai u with
 | none=>
  have Ń:bT c u=none:=by unfold bT;rw [hx]
  rw [hx] at h1;simp only [Ń];unfold br dm at*
  generalize au c.ad=L1 at*
  generalize c.av.map dc=L2 at*
  generalize c.ai.map bw=L3 at*
  simp (maxSteps:=9^9) (disch:=omega) [-C,-F,-A,-I,-J,om,N8,h1,aJ]
 | some i=>
  rw [hx] at h1;have hi:=cN hx;have hgo:c.ai[i]?=Q c.ai[i]:=Z hi;have Ń:bT c u=Q c.ai[i]:=by unfold bT;rw [hx];exact hgo
  have hfU:ep c u=c.ai[i].facts:=by unfold ep;rw [Ń]
  rw [hfU] at h2 Ő;have hsz:=hc.sz (ne_of_lt hi);have hg:(c.ai.map bw)[i]?=Q (ϒ [U V c.ai[i].unit,U V c.ai[i].par,U V c.ai[i].level,W c.ai[i].mark,W c.ai[i].title,ν c.ai[i].fn c.ai[i].fz (c.ai[i].facts.map dQ)]):=get_map _ _ hi;have ą:=bW bw c.ai;have ę:=hok.ai _ (χ hi);have Ę:i<1000000:=by have:=hc.sl;omega
  simp only [Ń];have hw:=I4 c.ai[i].level ę.l1 ę.l2;have ht:=xj c.ai[i].title (by have:=ę.wO;omega);have hm:=xj c.ai[i].mark (by have:=ę.mark;omega);have ħ:=eM c.ai[i].title;have ĭ:=eM c.ai[i].mark;have htl2:=ę.wO;have hml2:=ę.mark
  have htg:(ec c.ai[i].level).length<=6:=by
   unfold ec
   repeat' split
   all_goals simp
  unfold br dm at*
  generalize c.ai[i]=x at*
  generalize au c.ad=L1 at*
  generalize c.av.map dc=L2 at*
  generalize c.ai.map bw=L3 at*
  rw [hsz] at*
  obtain ⟨Y1,ń⟩: ∃Y,Y=ec x.level++32::(aB x.title++ [10]):=⟨_,rfl⟩;obtain ⟨Y2,Į⟩: ∃Y,Y=Y1++([109,97,114,107,32]++(aB x.mark++ [10])):=⟨_,rfl⟩;have hY1l:Ê Y1<=264:=by rw [ń];simp;omega
  have Ņ:shut 2 [ι 26 [ν c.ln c.lz L1,ν c.bn c.bz L2,ν c.sn 6 L3],ι 74 [U V x.unit,U V x.par,U V x.level,W x.mark,W x.title,ν x.fn x.fz (x.facts.map dQ)]]=true:=by simp [shut,aA,AV.under]
  have Ĩ:=jb (iG (bs:= [ι 26 [ν c.ln c.lz L1,ν c.bn c.bz L2,ν c.sn 6 L3],ι 74 [U V x.unit,U V x.par,U V x.level,W x.mark,W x.title,ν x.fn x.fz (x.facts.map dQ)]]) Ņ (a:= .cn) (.inl rfl) []) (ec x.level++32::(aB x.title++ [10])) (by simp) (by simp;omega);have ņ:=jb (iG (bs:= [ι 26 [ν c.ln c.lz L1,ν c.bn c.bz L2,ν c.sn 6 L3],ι 74 [U V x.unit,U V x.par,U V x.level,W x.mark,W x.title,ν x.fn x.fz (x.facts.map dQ)]]) Ņ (a:= ψ 2 0) (.inr rfl) Y1) ([109,97,114,107,32]++(aB x.mark++ [10])) (by omega) (by simp;omega);rw [jY,ω] at Ĩ;replace Ĩ:ar cfg 147 [ψ 2 0,W (ec x.level++32::(aB x.title++ [10]))] (bG [ι 26 [ν c.ln c.lz L1,ν c.bn c.bz L2,ν c.sn 6 L3],ι 74 [U V x.unit,U V x.par,U V x.level,W x.mark,W x.title,ν x.fn x.fz (x.facts.map dQ)]] .cn [])=Q (ϡ [U V ((ec x.level++32::(aB x.title++ [10])).length:ρ),.il ζ],bG [ι 26 [ν c.ln c.lz L1,ν c.bn c.bz L2,ν c.sn 6 L3],ι 74 [U V x.unit,U V x.par,U V x.level,W x.mark,W x.title,ν x.fn x.fz (x.facts.map dQ)]] (ψ 2 0) Y1):=by rw [ń];exact Ĩ
  rw [jY,<-Į] at ņ;have hY2l:Ê Y2<=1000:=by rw [Į];simp;omega
  simp only [bG,φ,ω,ϊ,Ψ,μ,ϓ,Ϗ] at Ĩ ņ;simp (maxSteps:=9^9) (disch:=omega) [-C,-F,-A,-I,-J,om,N8,h1,h2,aJ,hg,ą,hi,ab,hw,ht,hm,Ĩ,ņ];have hCHl:(ay (aF c.ad lang) x.facts).length<=32:=ϝ (gF _ _) ę.FG;have hE:=PB (ay (aF c.ad lang) x.facts);have hF: ∀k (h:k<(ay (aF c.ad lang) x.facts).length),zZ c.ad (ay (aF c.ad lang) x.facts)[k]:=fun k h=>ę.facts _ (bH (χ h));have hEl2:=bW dQ (ay (aF c.ad lang) x.facts);have hT:uh δ aB (ec x.level) x.title x.mark (ay (aF c.ad lang) x.facts)=Y2++(ay (aF c.ad lang) x.facts).flatMap fun f=>δ f.el++ [32]++aB f.text++ [10]:=by rw [Į,ń];simp [uh,jt]
  have ő:Y2≠ []:=by rw [Į];simp
  generalize ay (aF c.ad lang) x.facts=CH at*
  generalize hTT:uh δ aB (ec x.level) x.title x.mark CH=TT at*
  generalize CH.map dQ=CA at*
  clear Ĩ ņ ń Į hg h1 h2 hw ht hm hTT
  refine Wp.az (fun (a:ρ×ae)=>Ê CH-a.1) (fun a=> [O,O,O,O,O,O,O,Q (ψ 2 0),O,O,O,O,O,O,O,Q (ν nl z CA),Q (U V (Ê CH)),Q (U V a.1),O,O,O,O,O]) (fun a=> [ι 26 [ν c.ln c.lz L1,ν c.bn c.bz L2,ν c.sn 6 L3],ι 74 [U V x.unit,U V x.par,U V x.level,W x.mark,W x.title,ν x.fn x.fz (x.facts.map dQ)],ι 178 [ψ 2 0,Ϡ 3 a.2.length],Ϝ ⟨ζ,Q 5,O⟩ 1 (a.2.map aq)])
   (fun a=>(TT=a.2++(CH.drop a.1).flatMap fun f=>δ f.el++ [32]++aB f.text++ [10])/\a.1<=Ê CH/\a.2.length<=1000+20000*a.1/\a.2≠ []) ?_ (0,Y2) ⟨by simpa using hT,by simp,by simp;omega,ő⟩ (by simp) (by simp)
  rintro ⟨k,out⟩ ⟨ġ,hkl,Œ,hon⟩;simp only at ġ hkl Œ hon⊢;rw [ġ];by_cases h3:k<Ê CH
  ·have œ:=hE k h3;have Ě:=hF k h3;obtain rfl:=Ő (ne_of_lt h3);rw [η h3,List.flatMap_cons] at ġ⊢;clear hE hF;generalize CH[k]=f at*
   have hel:=xj f.text (by have:=Ě.len;omega);have hetl:=eM f.text;have hfl:=Ě.len;have hitl:=Lib.itoa_length_le f.el (by have:=Ě.Cm;omega) (by have:=Ě.GM;omega);have Ŕ: -9223372036854775808<=f.el:=by have:=Ě.Cm;omega
   have ŕ:f.el<=9223372036854775807:=by have:=Ě.GM;omega
   obtain ⟨Y3,į⟩: ∃Y,Y=out++(δ f.el++32::(aB f.text++ [10])):=⟨_,rfl⟩;have Ŗ:=jb (Ij (bs:= [ι 26 [ν c.ln c.lz L1,ν c.bn c.bz L2,ν c.sn 6 L3],ι 74 [U V x.unit,U V x.par,U V x.level,W x.mark,W x.title,ν x.fn x.fz (x.facts.map dQ)]]) (l:= [ι 76 [U V f.el,W f.lang,W f.text]]) Ņ (fun m=>rfl) (a:= ψ 2 0) (.inr rfl) out) (δ f.el++32::(aB f.text++ [10])) (by omega) (by simp;omega);rw [Ik,<-į] at Ŗ;have hY3l:Ê Y3<=1000+20000*(k+1):=by rw [į];simp;omega
   have ŗ:Y3≠ []:=by rw [į];simp
   have ď:out++((δ f.el++ [32]++aB f.text++ [10])++(CH.drop (k+1)).flatMap fun f=>δ f.el++ [32]++aB f.text++ [10])=Y3++(CH.drop (k+1)).flatMap fun f=>δ f.el++ [32]++aB f.text++ [10]:=by rw [į];simp
   rw [ď] at ġ⊢;rw [<-ġ];simp only [bG,φ,ω,ϊ,μ,ϓ,Ϗ] at Ŗ;generalize hit:δ f.el=it at*
   clear į ď;simp (maxSteps:=9^9) (disch:=omega) [-C,-F,-A,-I,-J,om,h3,œ,ab,oL,Ŕ,ŕ,hit,hel,Ŗ];exact ⟨k+1,Y3,⟨by rw [ġ];simp,by omega,by omega,ŗ⟩,by omega,by omega,rfl,rfl⟩
  ·rw [ξ (by omega),List.flatMap_nil,Λ] at ġ⊢;have hst:=rB (iG (bs:= [ι 26 [ν c.ln c.lz L1,ν c.bn c.bz L2,ν c.sn 6 L3],ι 74 [U V x.unit,U V x.par,U V x.level,W x.mark,W x.title,ν x.fn x.fz (x.facts.map dQ)]]) Ņ (a:= ψ 2 0) (.inr rfl) out) (by omega) hon;simp only [bG,φ,ω,ϊ,μ,ϓ,Ϗ] at hst;simp (maxSteps:=9^9) (disch:=omega) [-C,-F,-A,-I,-J,om,h3,hst]
theorem Bz (c:Ct) (hc:c.ok) (root:Int) (lang:ae) (x:Int×Int) (hr:aO c lang=π):ar cfg 55 [br c,U V root,W lang,ϒ [U V x.1,U V x.2]] []=Q (W (zc δ aB c lang root x), []):=by
 have hk:dU c=0:=by unfold aO at hr;simp at hr;exact hr.1
 have h1:=Al c hc root x.2;have h2:=Q7 c hc x.2 lang hr;have h3:=MC c hc x.2 lang;have h4:=Mz c hc x.2;rw [σ hk] at h1 h4;have h3e:(if x.2<1\/64<x.2\/aO c lang=ζ then [] else fZ (aF c.ad lang) c.av x.2 (cX δ x.2))=(if x.2<1\/64<x.2 then [] else fZ (aF c.ad lang) c.av x.2 (cX δ x.2)):=by rw [hr];simp
 rw [h3e] at h3;refine aa adT aaf ?_;unfold zc
 generalize hV2:(match bT c x.2 with
  | some s=>uh δ aB (ec s.level) s.title s.mark (ay (aF c.ad lang) s.facts)
  | none=>([]:ae))=V2 at*
 generalize (if x.2<1\/64<x.2 then ([]:ae) else fZ (aF c.ad lang) c.av x.2 (cX δ x.2))=V3 at*
 generalize de δ c root x.2=V1 at*
 generalize cY c.ai x.2=V4 at*
 clear h3e;unfold br dm at*
 generalize au c.ad=L1 at*
 generalize c.av.map dc=L2 at*
 generalize c.ai.map bw=L3 at*
 obtain ⟨k,u⟩:=x;simp only at*
 by_cases e1:k=1
 ·simp (maxSteps:=9^9) (disch:=omega) [-C,-F,-A,-I,-J,om,Ls,e1,h1]
 by_cases e2:k=2
 ·simp (maxSteps:=9^9) (disch:=omega) [-C,-F,-A,-I,-J,om,Ls,e2,h2]
  first | (cases bT c u <;> rfl) | (rw [<-hV2];cases bT c u <;> rfl) | rfl
 by_cases e3:k=3
 ·simp (maxSteps:=9^9) (disch:=omega) [-C,-F,-A,-I,-J,om,Ls,e3,h3]
 by_cases e4:k=4
 ·simp (maxSteps:=9^9) (disch:=omega) [-C,-F,-A,-I,-J,om,Ls,e4,h4]
 simp (maxSteps:=9^9) (disch:=omega) [-C,-F,-A,-I,-J,om,Ls,e1,e2,e3,e4]
set_option maxHeartbeats 8000000
def kW (t:ae) (j:ρ):γ Cell:=(List.range j).filterMap fun i=>if (ao (t.drop i)).2=0 then O else Q (4,(ao (t.drop i)).1)
theorem wB (t:ae) (j:ρ) (z:Cell):z∈kW t (j+1)↔z∈kW t j\/((ao (t.drop j)).2≠0/\z=(4,(ao (t.drop j)).1)):=by
 unfold kW;rw [List.range_succ,List.filterMap_append,ϗ];by_cases h:(ao (t.drop j)).2=0
 ·simp [h]
 ·simp [h]
theorem ng (m:γ (Cell×ρ)) (c:ρ) (z:Cell):(gr m c z).length<=Ê m+1:=by unfold gr;split <;> simp
theorem vd (n:ρ):c8 n∘nr=nr:=by funext x;simp [c8,nr,forget,im]
theorem nh (n:ρ) (m:γ (Cell×ρ)):dA n (m.map nr)=true:=by apply vR;intro x;simp [nr,AV.under]
theorem ve (n:Int) (h1:1<=n) (h2:n<=64):δ n=kT n.toNat:=by
 obtain ⟨k,rfl⟩:=Int.eq_ofNat_of_zero_le (show 0<=n by omega);unfold δ kT;rw [Θ (by omega)];simp only [ϔ,Int.natAbs_natCast];by_cases h:k<10
 ·rw [σ h,ϐ,dif_pos h]
 ·rw [Θ h,ϐ,dif_neg h,ϐ,dif_pos (by omega)];rfl
def uj (u:Int) (CH:γ Fc) (k:ρ) (M:γ (Cell×ρ)):Prop:= ∀y,y∈M.map ε↔y∈(CH.take k).flatMap cE\/y=(1,u)\/y=(2,u)
def kX (M1:γ (Cell×ρ)) (t:ae) (j:ρ) (M:γ (Cell×ρ)):Prop:= ∀y,y∈M.map ε↔y∈M1.map ε\/y∈kW t j
theorem kX.start (M1:γ (Cell×ρ)) (t:ae):kX M1 t 0 M1:=fun y=>by simp [kW]
theorem kX.skip {M1 M:γ (Cell×ρ)} {t:ae} {j:ρ} (h:kX M1 t j M) (h0:(ao (t.drop j)).2=0):kX M1 t (j+1) M:=fun y=>by
 rw [h y,wB];constructor
 ·rintro (q | q)
  ·exact .inl q
  ·exact .inr (.inl q)
 ·rintro (q | q | q)
  ·exact .inl q
  ·exact .inr q
  ·exact ύ h0 q.1
theorem kX.put {M1 M M':γ (Cell×ρ)} {t:ae} {j:ρ} (h:kX M1 t j M) (h0:(ao (t.drop j)).2≠0) (hm: ∀y,y∈M'.map ε↔y∈M.map ε\/y=(4,(ao (t.drop j)).1)):kX M1 t (j+1) M':=fun y=>by
 rw [hm y,h y,wB];constructor
 ·rintro ((q | q) | q)
  ·exact .inl q
  ·exact .inr (.inl q)
  ·exact .inr (.inr ⟨h0,q⟩)
 ·rintro (q | q | q)
  ·exact .inl (.inl q)
  ·exact .inl (.inr q)
  ·exact .inr q.2
theorem uj.next {u:Int} {CH:γ Fc} {k:ρ} (hk:k<Ê CH) {M M1 M2:γ (Cell×ρ)} (h:uj u CH k M) (h1: ∀y,y∈M1.map ε↔y∈M.map ε\/y=(3,CH[k].el)) (h2:kX M1 CH[k].text CH[k].text.length M2):uj u CH (k+1) M2:=fun y=>by
 have hc:kW CH[k].text CH[k].text.length=fO CH[k].text:=rfl;rw [h2 y,h1 y,h y,hc,mD CH hk,List.flatMap_append,ϗ];have:y∈ [CH[k]].flatMap cE↔y=(3,CH[k].el)\/y∈fO CH[k].text:=by simp [cE]
 rw [this];constructor
 ·rintro (((q | q | q) | q) | q)
  ·exact .inl (.inl q)
  ·exact .inr (.inl q)
  ·exact .inr (.inr q)
  ·exact .inl (.inr (.inl q))
  ·exact .inl (.inr (.inr q))
 ·rintro ((q | q | q) | q | q)
  ·exact .inl (.inl (.inl q))
  ·exact .inl (.inr q)
  ·exact .inr q
  ·exact .inl (.inl (.inr (.inl q)))
  ·exact .inl (.inl (.inr (.inr q)))
theorem Lt (c:Ct) (hc:c.ok) (root u:Int) (lang:ae) (h0:aW c root lang=0) (h1:de δ c root u≠ []):
  ar cfg 66 [br c,U V root,W lang,U V u] []=Q (ϡ [ν O 3 (((cellsOf u (bR c u lang)).map fun z=>(z,zc δ aB c lang root z)).map lR),U V 0], []):=by
 have hr:=eh h0;have hk:dU c=0:=by unfold aO at hr;simp at hr;exact hr.1
 have hok:=cj hk;have w1:=rG c hc root lang;have w2:=Al c hc root u;rw [σ hk] at w2;obtain ⟨nl,z,w3,hz⟩:=Ap c hc u lang;have wv: ∀x:Cell,_:=fun x=>Bz c hc root lang x hr;rw [h0,σ rfl] at w1
 have hF: ∀f∈bR c u lang,zZ c.ad f:=by
  intro f hf;unfold bR at hf;rw [σ hr] at hf;have hf:=bH hf;unfold ep at hf;cases hs:bT c u with
  | none=>rw [hs] at hf;cases hf
  | some s=>rw [hs] at hf;obtain ⟨_,_,_,_,hm⟩:=fG hs;exact (hok.ai s hm).facts f hf
 have ĩ:(bR c u lang).length<=32:=by
  unfold bR;rw [σ hr];refine ϝ (gF _ _) ?_;unfold ep;cases hs:bT c u with
  | none=>simp
  | some s=>obtain ⟨_,_,_,_,hm⟩:=fG hs;exact (hok.ai s hm).FG
 have hS:=wx u (bR c u lang);have hM: ∀z,z∈cellsOf u (bR c u lang)↔_:=fun z=>eb (z:=z);generalize cellsOf u (bR c u lang)=S at*
 generalize hval:zc δ aB c lang root=val at*
 refine aa adU aag ?_;have hE:=PB (bR c u lang);have ą:=bW dQ (bR c u lang);generalize bR c u lang=CH at*
 generalize CH.map dQ=CA at*
 generalize de δ c root u=nm at*
 have hnm:decide (nm≠ [])=true:=by simpa using h1
 rw [hnm] at w2;unfold xE at w1;generalize (fp δ c root lang).map cH=AS at*
 clear hk hok h0 h1 hr hnm hval;have u0: ∀x y (M:γ (Cell×ρ)) ck l z1,aH cfg (cfg.ti 101) (.cg 2) (ϒ [U V z1,U V u]) (τ π) (x::y:: .mp (M.map nr) ck::l)=Q (ϡ [],.upd 2 (.mp ((gr M ck (z1,u)).map nr) (fc M ck (z1,u)))):=fun x y M ck l z1=>PU (by rfl) (z1,u);have u1: ∀x y (M:γ (Cell×ρ)) ck l z1 z2,aH cfg (cfg.ti 101) (.cg 2) (ϒ [U V z1,U V z2]) (τ π) (x::y:: .mp (M.map nr) ck::l)=Q (ϡ [],.upd 2 (.mp ((gr M ck (z1,z2)).map nr) (fc M ck (z1,z2)))):=fun x y M ck l z1 z2=>PU (by rfl) (z1,z2);have u2: ∀x y ck l z1 z2,aH cfg (cfg.ti 101) (.cg 2) (ϒ [U V z1,U V z2]) (τ π) (x::y:: .mp [] ck::l)=Q (ϡ [],.upd 2 (.mp ((gr [] ck (z1,z2)).map nr) (fc [] ck (z1,z2)))):=fun x y ck l z1 z2=>PU (m:= []) (by rfl) (z1,z2);simp only [N9] at u1 u2;clear u0;unfold br dm at*
 generalize au c.ad=L1 at*
 generalize c.av.map dc=L2 at*
 generalize c.ai.map bw=L3 at*
 have m0:xv [] 0:=⟨by simp,by simp,by simp⟩;have i1:=iT (iT m0 (1,u)).1 (2,u);have i2:=iT (iT m0 (2,u)).1 (1,u)
 have i3: ∀y,y∈(gr (gr [] 0 (1,u)) (fc [] 0 (1,u)) (2,u)).map ε↔y=(1,u)\/y=(2,u):=fun y=>by
  rw [i1.2,(iT m0 (1,u)).2];simp
 have i4: ∀y,y∈(gr (gr [] 0 (2,u)) (fc [] 0 (2,u)) (1,u)).map ε↔y=(1,u)\/y=(2,u):=fun y=>by
  rw [i2.2,(iT m0 (2,u)).2];simp [or_comm]
 have i5:(gr (gr [] 0 (1,u)) (fc [] 0 (1,u)) (2,u)).length<=2:=by have:=ng (gr [] 0 (1,u)) (fc [] 0 (1,u)) (2,u);have:=ng [] 0 (1,u);simp at this;omega
 have i6:(gr (gr [] 0 (2,u)) (fc [] 0 (2,u)) (1,u)).length<=2:=by have:=ng (gr [] 0 (2,u)) (fc [] 0 (2,u)) (1,u);have:=ng [] 0 (2,u);simp at this;omega
 replace i1:=i1.1;replace i2:=i2.1;clear m0;simp (maxSteps:=9^9) (disch:=omega) [-C,-F,-A,-I,-J,om,aah,w1,w2,w3,ą,ab,gW,u1,u2,vd,nh];refine ⟨?_,?_⟩
 case' refine_1=>
  generalize gr (gr [] 0 (1,u)) (fc [] 0 (1,u)) (2,u)=M0 at*
  generalize fc (gr [] 0 (1,u)) (fc [] 0 (1,u)) (2,u)=Ň at*
  clear i2 i4 i6
  rename xv M0 Ň=>j1
  rename (∀y,y∈M0.map ε↔y=(1,u)\/y=(2,u))=>j2
  rename (Ê M0)<=2=>j3
 case' refine_2=>
  generalize gr (gr [] 0 (2,u)) (fc [] 0 (2,u)) (1,u)=M0 at*
  generalize fc (gr [] 0 (2,u)) (fc [] 0 (2,u)) (1,u)=Ň at*
  clear i1 i3 i5
  rename xv M0 Ň=>j1
  rename (∀y,y∈M0.map ε↔y=(1,u)\/y=(2,u))=>j2
  rename (Ê M0)<=2=>j3
 all_goals
  clear w1 w2 w3
  refine Wp.az (fun (a:ρ×γ (Cell×ρ)×ρ)=>Ê CH-a.1) (fun a=> [O,Q (U V root),Q (W lang),O,Q (ψ 0 0),O,O,O,O,O,Q (.cg 2),O,O,O,O,O,O,O,O,O,O,O,O,O,Q (ν nl z CA),Q (U V (Ê CH)),Q (U V a.1),O,O,O,O,O,O,O,O,O,O,O,O,O,O,O,O,O,O]) (fun a=> [ι 26 [ν c.ln c.lz L1,ν c.bn c.bz L2,ν c.sn c.sz L3],ι 49 [U V root,W lang,ν O 3 AS],.mp (a.2.1.map nr) a.2.2])
   (fun a=>xv a.2.1 a.2.2/\uj u CH a.1 a.2.1/\a.2.1.length<=2+5000*a.1/\a.1<=Ê CH) ?_ (0,M0,Ň) ⟨j1,fun y=>by rw [j2 y];simp,by simpa using j3,by simp⟩ (by simp) rfl
  rintro ⟨k,M,ck⟩ ⟨q1,q2,q3,q4⟩;simp only at q1 q2 q3 q4⊢;by_cases h3:k<Ê CH
  ·have œ:=hE k h3;have Ě:=hF _ (χ h3);obtain rfl:=hz (ne_of_lt h3);have İ:=fun M1 M2=>uj.next (M1:=M1) (M2:=M2) h3 q2;clear hE;generalize CH[k]=f at*
   obtain ⟨p1,p2⟩:=iT q1 (3,f.el);have p3:=ng M ck (3,f.el);simp (maxSteps:=9^9) (disch:=omega) [-C,-F,-A,-I,-J,om,h3,œ,ab,u1,vd,nh];generalize gr M ck (3,f.el)=M1 at*
   generalize fc M ck (3,f.el)=ck1 at*
   refine Wp.az (fun (a:ρ×γ (Cell×ρ)×ρ)=>f.text.length-a.1) (fun a=> [O,Q (U V root),Q (W lang),O,Q (ψ 0 0),O,O,O,O,O,Q (.cg 2),Q (ψ 3 0),O,O,O,O,O,O,O,O,O,O,O,O,Q (ν nl 3 CA),Q (U V (Ê CH)),Q (U V k),O,O,O,Q (U V f.text.length),Q (U V a.1),O,O,O,O,O,O,O,O,O,O,O,O,O]) (fun a=> [ι 26 [ν c.ln c.lz L1,ν c.bn c.bz L2,ν c.sn c.sz L3],ι 49 [U V root,W lang,ν O 3 AS],.mp (a.2.1.map nr) a.2.2,ι 76 [U V f.el,W f.lang,W f.text]])
    (fun a=>xv a.2.1 a.2.2/\kX M1 f.text a.1 a.2.1/\a.2.1.length<=Ê M1+a.1/\a.1<=f.text.length) ?_ (0,M1,ck1) ⟨p1,kX.start _ _,by simp,by simp⟩ (by simp) rfl
   rintro ⟨j,M2,ı⟩ ⟨r1,r2,r3,r4⟩;simp only at r1 r2 r3 r4⊢;have hfl:=Ě.len;by_cases h4:j<f.text.length
   ·have hne:f.text.drop j≠ []:=by simp;omega
    have Ĵ:=DX (f.text.drop j) hne;rw [wj hne] at Ĵ;unfold qI at Ĵ;have ħ:(f.text.take f.text.length).drop j=f.text.drop j:=by rw [υ]
    by_cases h5:(ao (f.text.drop j)).2=0
    ·have r5:=r2.skip h5;rw [h5] at Ĵ;generalize (ao (f.text.drop j)).1=pu at*
     clear q2 İ p2 r2;simp (maxSteps:=9^9) (disch:=omega) [-C,-F,-A,-I,-J,om,h4,Ĵ,ħ,vd,nh];exact ⟨j+1,M2,ı,⟨r1,r5,by omega,by omega⟩,by omega,by simp,rfl,rfl⟩
    ·obtain ⟨t1,t2,t3,t4,t5⟩:=(c7 (f.text.drop j)).resolve_left (fun h=>h5 (by rw [h]));have h6:0<(ao (f.text.drop j)).2:=by omega
     obtain ⟨o1,o2⟩:=iT r1 (4,(ao (f.text.drop j)).1);have r5:=r2.put h5 o2;have o3:=ng M2 ı (4,(ao (f.text.drop j)).1);generalize (ao (f.text.drop j)).1=pu at*
     generalize (ao (f.text.drop j)).2=pn at*
     clear q2 İ p2 r2 o2;simp (maxSteps:=9^9) (disch:=omega) [-C,-F,-A,-I,-J,om,h4,Ĵ,ħ,h6,ab,u1,vd,nh];exact ⟨j+1,gr M2 ı (4,pu),fc M2 ı (4,pu),⟨o1,r5,by omega,by omega⟩,by omega,by simp,rfl,rfl⟩
   ·obtain rfl:j=f.text.length:=by omega
    have r5:=İ M1 M2 p2 r2;clear q2 İ p2 r2;simp (maxSteps:=9^9) (disch:=omega) [-C,-F,-A,-I,-J,om,vd,nh];exact ⟨k+1,M2,ı,⟨r1,r5,by omega,by omega⟩,by omega,by simp,rfl,rfl⟩
  ·obtain rfl:k=Ê CH:=by omega
   have Ř: ∀z,z∈M.map ε↔z∈S:=fun z=>by
    rw [hM z];have:=q2 z
    rwa [υ] at this
   obtain ⟨e1,he1⟩: ∃e,e∈M:=by have:((1,u):Cell)∈M.map ε:=(Ř _).2 ((hM _).2 (.inr (.inl rfl)));obtain ⟨e,he,_⟩:=List.mem_map.1 this;exact ⟨e,he⟩
   have ř:=fun l=>GV q1 hS Ř val (l:=l);have hb:=fun e he=>Sf M 0 e he q1.born;clear hE hF q2 hM Ř hS q1;simp (maxSteps:=9^9) (disch:=omega) [-C,-F,-A,-I,-J,om,vd,nh,nD]
   refine Wp.az (fun (l:γ (Cell×ρ))=>Ê M-Ê l) (fun l=> [O,Q (U V root),Q (W lang),O,Q (ψ 0 0),O,O,O,O,O,O,O,O,O,O,Q (Ϡ 4 (Ê l)),O,O,O,O,O,O,O,O,O,O,O,O,O,O,O,O,O,O,O,O,Q (.lU 3),O,O,O,O,O,O,O,O]) (fun l=> [ι 26 [ν c.ln c.lz L1,ν c.bn c.bz L2,ν c.sn c.sz L3],ι 49 [U V root,W lang,ν O 3 AS],.mp (M.map nr) ck,.iter (.map 2 (l.map Ρ) ck),Ϝ ⟨ζ,Q 99,O⟩ 3 (l.map fun e=>lR (e.1,val e.1))])
    (fun l=>(∀e∈l,e∈M)/\(l.map Ρ).Nodup) ?_ [] ⟨by simp,by simp⟩ (by simp) (by simp)
   rintro l ⟨l1,l2⟩;have hll:Ê l<=Ê M:=nu l2 l1;simp only [Uv];refine Wp.CL (i:=3) (m:=2) (clock:=ck) (seen:=l.map Ρ) (es:=M.map nr) rfl rfl rfl ?_ ?_
   ·intro ĵ;have Ċ: ∀e∈M,(l.map Ρ).contains e.2=true:=fun e he=>ĵ (nr e) (List.mem_map.mpr ⟨e,he,rfl⟩);obtain ⟨s1,s2⟩:=ř l l1 l2 Ċ
    have Ī:l≠ []:=by rintro rfl;have:=Ċ e1 he1;simp at this
    clear ĵ Ċ ř hb;have ň:=BA (l.map fun e=>(e.1,val e.1));rw [Ϟ] at ň;have ě:(lR∘fun e:Cell×ρ=>(e.1,val e.1))=fun e=>lR (e.1,val e.1):=rfl;rw [ě] at ň;have đ:(l.map fun e=>(e.1,val e.1)).length=Ê l:=by simp
    have hrn:(l.map fun e=>(e.1,val e.1))≠ []:=by simpa using Ī
    have Ś:(l.map fun e=>lR (e.1,val e.1)).length=Ê l:=by simp
    have hSl:(S.map fun z=>(z,val z)).length=Ê l:=by rw [<-s2];simp [sJ]
    generalize hR:(l.map fun e=>(e.1,val e.1))=R at*
    generalize hS2:(S.map fun z=>(z,val z))=S2 at*
    generalize (l.map fun e=>lR (e.1,val e.1))=EE at*
    have hg:xk [Ϡ 4 (Ê l),.fn 115 [] []] [ι 26 [ν c.ln c.lz L1,ν c.bn c.bz L2,ν c.sn c.sz L3],ι 49 [U V root,W lang,ν O 3 AS],.mp (M.map nr) ck,.iter (.map 2 (l.map Ρ) ck),Ϝ ⟨ζ,Q 99,O⟩ 3 EE]=Q (ϡ [], [ι 26 [ν c.ln c.lz L1,ν c.bn c.bz L2,ν c.sn c.sz L3],ι 49 [U V root,W lang,ν O 3 AS],.mp (M.map nr) ck,.iter (.map 2 (l.map Ρ) ck),Ϝ ⟨ζ,Q 99,O⟩ 3 (S2.map lR)]):=by
     have hm1:Ê l<1000000:=by omega
     simp [xk,af.at,ň,đ,hrn,hm1,s1,s2]
    clear ň ě s1 s2 hR;have hSm:(S2.map lR).length=Ê l:=by rw [List.length_map];exact hSl
    generalize hS3:S2.map lR=S3 at*
    simp (maxSteps:=9^9) (disch:=omega) [-C,-F,-A,-I,-J,om,vd,nh,hg,Ś,hSm];rw [<-hS3,<-hS2,Ϟ]
   ·intro e he hn;obtain ⟨e0,he0,rfl⟩:=List.mem_map.1 he;obtain ⟨j,hj⟩:=hb e0 he0;have hv:=wv e0.1;clear ř hb he wv;obtain ⟨⟨z1,z2⟩,n⟩:=e0;replace hj:vz (n:Int) (M.map nr) 0=Q (j,(ϒ [U V z1,U V z2],τ π,n)):=hj;simp only at hv;have Ś:(l.map fun e=>lR (e.1,val e.1)).length=Ê l:=by simp
    simp (maxSteps:=9^9) (disch:=omega) [-C,-F,-A,-I,-J,om,vd,nh,nr,im,oV,hj,hv,Ś,ab]
    have Ķ: ∀e∈l++ [((z1,z2),n)],e∈M:=fun e hm=>by
     rcases List.mem_append.1 hm with hm | hm
     ·exact l1 _ hm
     ·rw [ϑ] at hm;rw [hm];exact he0
    have hnd:((l++ [((z1,z2),n)]).map Ρ).Nodup:=by rw [List.map_append];refine List.nodup_append.mpr ⟨l2,by simp,fun a ha b hb=> ?_⟩;simp only [List.map_cons,Ψ,ϑ] at hb;rintro rfl;have hn2:(l.map Ρ).contains n=false:=hn;rw [hb] at ha;rw [<-List.contains_iff_mem,hn2] at ha;cases ha
    have hle:=nu hnd Ķ;rw [Α,ϋ] at hle;refine ⟨l++ [((z1,z2),n)],⟨fun a b q hm=>Ķ _ hm,hnd⟩,?_,by simp,by simp,by simp [lR]⟩;rw [Α,ϋ];omega
set_option maxHeartbeats 4000000
theorem JM (a b:Cell):ar cfg 116 [im a,im b] []=Q (U V (gS a b), []):=by
 refine aa aai VC ?_;have c1:=wW a.1 b.1;have c2:=wW a.2 b.2;have c3:=GR O (kf a.1 b.1) (kf a.2 b.2);have e:gS a b=if kf a.1 b.1=0 then kf a.2 b.2 else kf a.1 b.1:=rfl;rw [e];unfold im;generalize (if kf a.1 b.1=0 then kf a.2 b.2 else kf a.1 b.1)=r at*
 generalize kf a.1 b.1=r1 at*
 generalize kf a.2 b.2=r2 at*
 simp (maxSteps:=9^9) (disch:=omega) [-C,-F,-A,-I,-J,om,S6,c1,c2,c3]
theorem Q8 (r:Cell×ae) (x:Cell):ar cfg 175 [lR r,im x] []=Q (U V (gS r.1 x), []):=by
 refine aa aaj VD ?_;have c1:=JM r.1 x;unfold lR;unfold im at*
 simp (maxSteps:=9^9) (disch:=omega) [-C,-F,-A,-I,-J,om,S7,c1]
theorem JN {l:γ (Cell×ae)} (h:ko (l.map ε)): ∀(i j:ρ) (a b:Cell×ae),i<j->l[i]?=Q a->l[j]?=Q b->eB a.1 b.1=true:=by
 induction l with
 | nil=>intro i j a b _ h1;cases h1
 | cons x r ih=>
  intro i j a b ś h1 h2;cases i with
  | zero=>
   cases h1;cases j with
   | zero=>omega
   | succ j=>exact h.1 b.1 (List.mem_map.2 ⟨b,List.mem_of_getElem? (by simpa using h2),rfl⟩)
  | succ i=>
   cases j with
   | zero=>omega
   | succ j=>exact ih h.2 i j a b (by omega) (by simpa using h1) (by simpa using h2)
structure Cut (l:γ (Cell×ae)) (c:Cell) (i j:ρ):Prop where
 lo: ∀k r,k<i->l[k]?=Q r->eB r.1 c=π
 hi: ∀k r,j<=k->l[k]?=Q r-> ¬ eB r.1 c=π
theorem Cut.left {l:γ (Cell×ae)} {c:Cell} {i j h:ρ} (hc:Cut l c i j) (hi:ko (l.map ε)) {r:Cell×ae} (hr:l[h]?=Q r) (hb:eB r.1 c=π):Cut l c (h+1) j:=⟨fun k q hk hq=>by
  by_cases e:k=h
  ·subst e;rw [hr] at hq;cases hq;exact hb
  ·exact gA (JN hi k h q r (by omega) hq hr) hb,hc.hi⟩
theorem BB (nl:Ο Μ) (z:ρ) (l:γ (Cell×ae)) (hz:l≠ []->z=3) (hl:Ê l<1000000) (hi:ko (l.map ε)) (c:Cell):
  ∃i:ρ,ar cfg 174 [ν nl z (aN l),im c,.fn 175 [] []] []=Q (ϡ [U V i,τ (ax l c).isSome], [])/\ ∀t,ax l c=Q t->i<Ê l/\ ∃r,l[i]?=Q r/\r.2=t:=by
 obtain ⟨i0,hi0,Ī⟩: ∃i0,i0<=Ê l/\Cut l c i0 i0:=by
  have: ∀n,n<=Ê l-> ∃i0,i0<=Ê l/\(∀k r,k<i0->l[k]?=Q r->eB r.1 c=π)/\(i0<Ê l->n<=i0\/ ∃r,l[i0]?=Q r/\ ¬ eB r.1 c=π):=by
   intro n
   induction n with
   | zero=>exact fun _=>⟨0,by omega,fun k r hk=>by omega,fun _=> .inl (by omega)⟩
   | succ n ih=>
    intro hn;obtain ⟨i0,h1,h2,h3⟩:=ih (by omega);by_cases hlt:i0<Ê l
    ·rcases h3 hlt with h4 | h4
     ·have hr:l[i0]?=Q l[i0]:=Z hlt;by_cases hb:eB l[i0].1 c=π
      ·refine ⟨i0+1,by omega,fun k r hk hq=> ?_,fun _=> .inl (by omega)⟩;by_cases e:k=i0
       ·subst e;rw [hr] at hq;cases hq;exact hb
       ·exact h2 k r (by omega) hq
      ·exact ⟨i0,h1,h2,fun _=> .inr ⟨_,hr,hb⟩⟩
     ·exact ⟨i0,h1,h2,fun _=> .inr h4⟩
    ·exact ⟨i0,h1,h2,fun h=>ύ h hlt⟩
  obtain ⟨i0,h1,h2,h3⟩:=this (Ê l) (Κ _);refine ⟨i0,h1,h2,fun k r hk hq=> ?_⟩
  have hkl:k<Ê l:=by
   rcases Ω k (Ê l) with h | h
   ·exact h
   ·rw [Η h] at hq;cases hq
  rcases h3 (by omega) with h4 | ⟨r0,h4,h5⟩
  ·omega
  ·by_cases e:k=i0
   ·subst e;rw [h4] at hq;cases hq;exact h5
   ·exact fun hb=>h5 (gA (JN hi i0 k r0 r (by omega) h4 hq) hb)
 have ć:=JF l i0 hi Ī.lo Ī.hi;refine ⟨i0,?_,fun t ht=> ?_⟩
 case refine_2=>
  rw [ht] at ć;cases hr:l[i0]? with
  | none=>rw [hr] at ć;cases ć
  | some r=>
   rw [hr] at ć;simp only at ć;split at ć
   ·cases ć;refine ⟨?_,r,rfl,rfl⟩;rcases Ω i0 (Ê l) with h | h
    ·exact h
    ·rw [Η h] at hr;cases hr
   ·cases ć
 refine aa aak VE ?_;have hE:=L6 l;have ą:=fm l;generalize aN l=E at*
 have ķ:=fun r=>Q8 r c;unfold lR at ķ;unfold im at*
 simp (maxSteps:=9^9) (disch:=omega) [-C,-F,-A,-I,-J,om,S8,ą];refine Wp.az (fun (a:ρ×ρ)=>a.2-a.1) (fun a=> [Q (ν nl z E),O,Q (.fn 175 [] []),Q (ψ 0 0),O,O,Q (U V (Ê l)),Q (U V a.1),Q (U V a.2),O,O,O,O,O]) (fun _=> [ι 78 [U V c.1,U V c.2]]) (fun a=>a.1<=i0/\i0<=a.2/\a.2<=Ê l) ?_ (0,Ê l) ⟨by simp,hi0,by simp⟩ (by simp) rfl;rintro ⟨i,j⟩ ⟨h1,h2,h3⟩;simp only at h1 h2 h3⊢;by_cases ś:i<j
 ·obtain ⟨h,Ŝ⟩: ∃h,h=(i+j) / 2:=⟨_,rfl⟩;have hh:h<Ê l:=by omega
  have ĸ:=hE h hh;obtain rfl:=hz (ne_of_lt hh);have hr:l[h]?=Q l[h]:=Z hh;have Ĺ:=ķ l[h];have hlt:=gm l[h].1 c;have hd1:h<i0->eB l[h].1 c=true:=fun q=>Ī.lo _ _ q hr;have Ō:i0<=h-> ¬ eB l[h].1 c=true:=fun q=>Ī.hi _ _ q hr;generalize l[h]=r at*
  have w1:IntKind.u64.wrap ((i:Int)+(j:Int))=(i:Int)+(j:Int):=by show ((i:Int)+(j:Int))%18446744073709551616=_;omega
  have w2:IntKind.i64.wrap ((i:Int)+(j:Int))=(i:Int)+(j:Int):=wrap_i64 (by omega) (by omega)
  have w3:((i:Int)+(j:Int)).fdiv (2^min 1 IntKind.u64.bits)=(h:Int):=by show ((i:Int)+(j:Int)).fdiv 2=(h:Int);rw [Int.fdiv_eq_ediv_of_nonneg _ (by omega)];omega
  have w4:IntKind.i64.wrap (h:Int)=(h:Int):=wrap_i64 (by omega) (by omega);have b1:i<=h:=by omega
  have b2:h<j:=by omega
  clear hE ķ hr Ŝ;obtain ⟨⟨r1,r2⟩,t⟩:=r;simp only at*
  generalize gS (r1,r2) c=cc at*
  by_cases hcc:cc<0
  ·have hb:=hlt.1 hcc;simp (maxSteps:=9^9) (disch:=omega) [-C,-F,-A,-I,-J,om,ś,ĸ,ą,w1,w2,w3,w4,Ĺ,hcc];refine ⟨h+1,j,⟨?_,by omega,by omega⟩,by omega,by simp⟩;rcases Ω h i0 with q | q
   ·omega
   ·exact ύ hb (Ō q)
  ·simp (maxSteps:=9^9) (disch:=omega) [-C,-F,-A,-I,-J,om,ś,ĸ,ą,w1,w2,w3,w4,Ĺ,hcc];refine ⟨i,h,⟨by omega,?_,by omega⟩,by omega,by simp⟩;rcases Ω h i0 with q | q
   ·exact ύ (hlt.2 (hd1 q)) hcc
   ·exact q
 ·obtain rfl:j=i0:=by omega
  obtain rfl:i=j:=by omega
  by_cases hlt:i<Ê l
  ·have ĸ:=hE i hlt;obtain rfl:=hz (ne_of_lt hlt);have hr:l[i]?=Q l[i]:=Z hlt;have Ĺ:=ķ l[i];have hz0:=Lu l[i].1 c;rw [hr] at ć;generalize l[i]=r at*
   clear hE ķ hr;obtain ⟨⟨r1,r2⟩,t⟩:=r;simp only at*
   rw [ć];generalize gS (r1,r2) c=cc at*
   by_cases hcc:cc=0
   ·rw [σ (hz0.1 hcc)];simp (maxSteps:=9^9) (disch:=omega) [-C,-F,-A,-I,-J,om,hlt,ĸ,ą,Ĺ,hcc]
   ·rw [Θ (fun q=>hcc (hz0.2 q))];have ċ:(cc==0)=false:=by simpa using hcc
    simp (maxSteps:=9^9) (disch:=omega) [-C,-F,-A,-I,-J,om,hlt,ĸ,ą,Ĺ,hcc,ċ]
  ·rw [Η (by omega)] at ć;rw [ć];simp (maxSteps:=9^9) (disch:=omega) [-C,-F,-A,-I,-J,om,hlt,ą]
theorem Il {B:γ af} {k:ρ} {nl:Ο Μ} {z:ρ} {l:γ (Cell×ae)} {lk:Μ} (hB:af.at B k= ι 166 [ν nl z (aN l),τ lk]) (hk:k<Ê B) (hs:shut (Ê B) B=π) (hz:l≠ []->z=3) (hl:Ê l<1000000) (hi:ko (l.map ε)) (kd u:Int):
  ar cfg 132 [ψ k 0,U V kd,U V u] B=Q (W ((ax l (kd,u)).getD []),B.set k (ι 166 [ν nl z (aN l),τ (lk || (ax l (kd,u)).isNone)])):=by
 refine aa S9 Oa ?_;obtain ⟨i,h1,h2⟩:=BB nl z l hz hl hi (kd,u);unfold im at h1;simp only at h1;have hE:=L6 l;have ą:=fm l;have hpl:=aS l;have hm:=shut_map (Κ (Ê B)) hs;have hks:=fj k hs (x:= ι 166 [ν nl z (aN l),τ π]) (by simp [shut,aA,AV.under]);have hm2:=shut_map (Κ (Ê B)) hks;cases hq:ax l (kd,u) with
 | none=>
  rw [hq] at h1;generalize aN l=E at*
  have e1:(lk || (O:Ο ae).isNone)=true:=by simp
  rw [e1];simp (maxSteps:=9^9) (disch:=omega) [-C,-F,-A,-I,-J,om,JO,hB,hk,h1,hm,hm2,hpl,ab]
 | some t=>
  rw [hq] at h1;obtain ⟨h3,r,h4,h5⟩:=h2 t hq;have Ĭ:=hE i h3;obtain rfl:=hz (ne_of_lt h3);have hri:l[i]=r:=by rw [Z h3] at h4;cases h4;rfl
  rw [hri] at Ĭ
  have e:B.set k (ι 166 [ν nl 3 (aN l),τ (lk || (Q t).isNone)])=B:=by
   have e1:(lk || (Q t).isNone)=lk:=by simp
   rw [e1,<-hB];apply List.ext_getElem?;intro i;by_cases hi:i=k
   ·subst hi;simp [af.at,hk,A]
   ·rw [List.getElem?_set_ne (Ne.symm hi)]
  rw [e];generalize aN l=E at*
  clear h2 hE h4 hri e;subst h5;simp (maxSteps:=9^9) (disch:=omega) [-C,-F,-A,-I,-J,om,JO,hB,hk,h1,hm,Ĭ,hpl,ab]
set_option maxHeartbeats 8000000
def F2 (B:γ af) (k:ρ) (nl:Ο Μ) (z:ρ) (l:γ (Cell×ae)) (lk:Μ):γ af:=B.set k (ι 166 [ν nl z (aN l),τ lk])
theorem lN (B:γ af) (k:ρ) (nl:Ο Μ) (z:ρ) (l:γ (Cell×ae)) (lk:Μ):(F2 B k nl z l lk).length=Ê B:=by simp [F2]
theorem zj {B:γ af} {k:ρ} {nl:Ο Μ} {z:ρ} {l:γ (Cell×ae)} {lk:Μ} (hs:shut (Ê B) B=π):shut (Ê B) (F2 B k nl z l lk)=true:=fj k hs (by simp [shut,aA,AV.under])
structure Fl where
 b:Μ
def flE (x y:Μ):Prop:=x=y
theorem Ob {B:γ af} {k:ρ} {nl:Ο Μ} {z:ρ} {l:γ (Cell×ae)} (hk:k<Ê B) (hs:shut (Ê B) B=π) (hz:l≠ []->z=3) (hl:Ê l<1000000) (hi:ko (l.map ε)) (hv: ∀u,((ax l (4,u)).getD []).length<=1000) (s:ae) (hsl:Ê s<=10000) (ī:Μ):
  ar cfg 135 [ψ k 0,W s] (F2 B k nl z l ī)=Q (W (aV (fun u=>ax l (4,u)) s).1,F2 B k nl z l (ī || (aV (fun u=>ax l (4,u)) s).2)):=by
 have Ā: ∀(lk:Μ) (a:AV) (out:ae) (u:Int),(a= .cn\/a= ψ (Ê B) 0)->ar cfg 132 [ψ k 0,U V 4,U V u] (bG (F2 B k nl z l lk) a out)=Q (W ((ax l (4,u)).getD []),bG (F2 B k nl z l (lk || (ax l (4,u)).isNone)) a out):=fun lk a out u ha=>by
  have Ĕ:=iG (bs:=F2 B k nl z l lk) (by rw [lN];exact zj hs) (a:=a) (by rw [lN];exact ha) out
  have h:=Il (B:=bG (F2 B k nl z l lk) a out) (k:=k) (nl:=nl) (z:=z) (l:=l) (lk:=lk) (by
   unfold bG;rw [fX _ _ (by rw [lN];exact hk)];unfold F2;rw [Go.Am.bO _ _ _ hk,σ rfl]) (by unfold bG;simp [lN];omega) Ĕ.sh hz hl hi 4 u
  rw [h];congr 2;unfold bG;rw [List.set_append_left _ _ (by rw [lN];exact hk),lN,lN];unfold F2;rw [List.set_set]
 refine aa aal VF ?_;have Ă: ∀lk,(F2 B k nl z l lk).length=Ê B:=fun lk=>lN ..
 have ĺ: ∀lk,shut (F2 B k nl z l lk).length (F2 B k nl z l lk)=true:=fun lk=>by rw [Ă];exact zj hs
 have hm:=fun lk=>shut_map (Κ _) (ĺ lk);have Ļ: ∀e,shut (Ê B) (F2 B k nl z l e)=true:=fun e=>zj hs;generalize Ĝ:(fun u=>ax l (4,u))=look at*
 have hlk: ∀u,ax l (4,u)=look u:=fun u=>by rw [<-Ĝ]
 simp only [hlk] at Ā hv;clear hlk Ĝ;generalize hK:F2 B k nl z l=K at*
 generalize hn0:Ê B=n0 at*
 obtain ⟨f0,f1,f2,f3,s0,s1,s2,s3,b0,b1,b2,b3,tk⟩:=Ua (Ă ī);simp (maxSteps:=9^9) (disch:=omega) [-C,-F,-A,-I,-J,om,Ta,Ă,f0,f1,f2,f3,s0,s1,s2,s3,b0,b1,b2,b3,tk];clear f0 f1 f2 f3 s0 s1 s2 s3 b0 b1 b2 b3 tk;refine Wp.az (fun (a:ρ×ae×AV×Fl)=>Ê s-a.1) (fun a=> [Q (ψ k 0),Q (W s),O,Q (ψ n0 0),Q (U V a.1),O,O,O,O,O,O,O]) (fun a=>bG (K a.2.2.2.b) a.2.2.1 a.2.1) (fun a=>(aV look s).1=a.2.1++(aV look (s.drop a.1)).1/\flE (ī || (aV look s).2) (a.2.2.2.b || (aV look (s.drop a.1)).2)/\a.1<=Ê s/\a.2.1.length<=1000*a.1/\(a.2.2.1= .cn\/a.2.2.1= ψ n0 0)) ?_ (0, [],.cn,⟨ī⟩) ⟨by simp,rfl,by simp,by simp,.inl rfl⟩ (by simp) (by simp [bG,Ă]);rintro ⟨i,out,a,⟨lk⟩⟩ ⟨hi,Đ,Ę,Œ,ha⟩;simp only at hi Đ Ę Œ ha⊢;have Ĉ:(ī || (aV look s).2)=(lk || (aV look (s.drop i)).2):=Đ;rw [hi,Ĉ];clear hi Đ Ĉ;have Ĕ:=iG (ĺ lk) (by rw [Ă];exact ha) out;rw [Ă] at Ĕ;have Č: ∀lk a out,(bG (K lk) a out).length=n0+2:=fun lk a out=>by simp [bG,Ă]
 by_cases h1:i<Ê s
 ·have hg:s[i]?=Q (s.getD i 0):=by simp [A,h1]
  have ŝ:=sI Ĕ (s.getD i 0) (by omega)
  have hst:jw (bG (K lk) a out) n0 (n0+1)=fun t=>bG (K lk) (ψ n0 0) t:=by funext t;have:=jY (bs:=K lk) (a:=a) (s:=out) (t:=t);rw [Ă] at this;exact this
  rw [hst] at ŝ;have hd:=DU s h1;have ħ:(s.take (Ê s)).drop i=s.drop i:=by rw [υ]
  have hne:s.drop i≠ []:=by rw [hd];simp
  have hu:=DX (s.drop i) hne;rw [wj hne] at hu;unfold qI at hu;by_cases hp:(ao (s.drop i)).2=0
  ·have he:aV look (s.drop i)=(s.getD i 0::(aV look (s.drop (i+1))).1,(aV look (s.drop (i+1))).2):=by rw [hd];exact od look _ _ (by rw [<-hd];exact hp)
   rw [he];rw [hp] at hu;generalize (ao (s.drop i)).1=p1 at*
   generalize s.getD i 0=c at*
   have ď:=Č lk a out;have Ş:=Č lk (ψ n0 0) (out++ [c]);clear hd hp Ā Ĕ Č hst he;generalize hB2:bG (K lk) a out=B2 at*
   simp (maxSteps:=9^9) (disch:=omega) [-C,-F,-A,-I,-J,om,h1,hg,aq,hu,ħ,ŝ,ď,Ş];exact ⟨i+1,out++ [c],ψ n0 0,⟨lk⟩,⟨by simp,rfl,by omega,by simp;omega,.inr rfl⟩,by omega,by simp,rfl⟩
  ·obtain ⟨q1,q2,q3,q4,q5⟩:=(c7 (s.drop i)).resolve_left (fun h=>hp (by rw [h]));have he:=mf look (s.drop i) hp;have hw:=Ā lk a out (ao (s.drop i)).1 ha;have İ:=hv (ao (s.drop i)).1;have Ģ:=iG (ĺ (lk || (look (ao (s.drop i)).1).isNone)) (by rw [Ă];exact ha) out;rw [Ă] at Ģ;have hws:=jb Ģ ((look (ao (s.drop i)).1).getD []) (by omega) (by omega)
   have ļ:jw (bG (K (lk || (look (ao (s.drop i)).1).isNone)) a out) n0 (n0+1)=fun t=>bG (K (lk || (look (ao (s.drop i)).1).isNone)) (ψ n0 0) t:=by funext t;have:=jY (bs:=K (lk || (look (ao (s.drop i)).1).isNone)) (a:=a) (s:=out) (t:=t);rw [Ă] at this;exact this
   rw [ļ] at hws;obtain ⟨n,hn⟩: ∃n:ρ,(ao (s.drop i)).2=n:=⟨(ao (s.drop i)).2.toNat,by omega⟩;rw [hn] at hu he q3 q4;rw [ϔ,List.drop_drop] at he;have q4':i+n<=Ê s:=by simp at q4;omega
   have q3':0<n:=by omega
   have he2:aV look (s.drop i)=((look (ao (s.drop i)).1).getD []++(aV look (s.drop (i+n))).1,((look (ao (s.drop i)).1).isNone || (aV look (s.drop (i+n))).2)):=by rw [he];cases look (ao (s.drop i)).1 <;> simp
   rw [he2];generalize (look (ao (s.drop i)).1).getD []=x at*
   generalize (look (ao (s.drop i)).1).isNone=no at*
   generalize (ao (s.drop i)).1=p1 at*
   have ď:=Č lk a out;have Ş:=Č (lk || no) (ψ n0 0) (out++x);have hk4:=Č (lk || no) a out;clear hd hp Ā Ĕ Ģ Č hst ļ he he2 ŝ q1 q2 q3 q4 q5 hn;generalize hB2:bG (K lk) a out=B2 at*
   generalize hB3:bG (K (lk || no)) a out=B3 at*
   simp (maxSteps:=9^9) (disch:=omega) [-C,-F,-A,-I,-J,om,h1,hu,ħ,hw,hws,ď,Ş,hk4,q3'];exact ⟨i+n,out++x,ψ n0 0,⟨lk || no⟩,⟨by simp,by simp [flE,Ϛ],by omega,by simp;omega,.inr rfl⟩,by omega,by simp,rfl⟩
 ·rw [ξ (by omega),lM,Λ,ϛ];have hfin:(bG (K lk) a out).take n0=K lk:=by unfold bG;rw [<-Ă lk];exact ο rfl
  by_cases h0:out= []
  ·subst h0;have hst:=vy Ĕ;have ş:((bG (K lk) a []).set (n0+1) (Ϝ ⟨ζ,O,O⟩ 1 [])).take n0=K lk:=by unfold bG;rw [<-Ă lk,dt];exact ο rfl
   have ď:=Č lk a [];have ě:=hm lk;rw [Ă] at ě;generalize bG (K lk) a []=B2 at*
   clear Ā ĺ hm Ļ Č;simp (maxSteps:=9^9) (disch:=omega) [-C,-F,-A,-I,-J,om,h1,hst,ş,ě,ď,Ă]
  ·have hst:=rB Ĕ (by omega) h0;have ş:((bG (K lk) a out).set (n0+1) (Ϝ ⟨ζ,O,O⟩ 1 (out.map aq))).take n0=K lk:=by unfold bG;rw [<-Ă lk,dt];exact ο rfl
   have ď:=Č lk a out;have ě:=hm lk;rw [Ă] at ě;generalize bG (K lk) a out=B2 at*
   clear Ā ĺ hm Ļ Č;simp (maxSteps:=9^9) (disch:=omega) [-C,-F,-A,-I,-J,om,h1,hst,ş,ě,ď,Ă]
theorem BC {l:γ (Cell×ae)} {i:ρ} {a b:Cell×ae} (h1:l[i]?=Q a) (h2:l[i+1]?=Q b):vb (l.drop i)=(eB a.1 b.1&&vb (l.drop (i+1))):=by obtain ⟨k1,rfl⟩:=List.getElem?_eq_some_iff.1 h1;obtain ⟨k2,rfl⟩:=List.getElem?_eq_some_iff.1 h2;rw [η k1,η k2];rfl
def oJ:AV:= ϒ [U V 0,W [],ν (Q π) 0 []]
def eA (q:Int×Ο mv):AV:= ϡ [match q.2 with | some s=>cH s | none=>oJ,U V q.1]
theorem F3 (l:γ (Cell×ae)):vb (l.drop (Ê l-1))=true:=by
 cases h:l.drop (Ê l-1) with
 | nil=>rfl
 | cons a r=>have:=congrArg ϟ h;simp at this;have:r= []:=List.length_eq_zero_iff.mp (by omega);rw [this];rfl
theorem vg {s t:ae} (h:ag s=Q t):Ê t<=Ê s:=Q9 h
theorem Lv {p:ae} {n:ρ} {t:ae} (h:fS ag p=Q (n,t)):Ê t<=Ê p/\n<=64:=by
 unfold fS at h;split at h
 ·rename_i num rest hc;obtain ⟨e,_⟩:=eX hc;split at h
  ·rename_i n' t' hp hu;split at h
   ·cases h
   ·rename_i hn;cases h;have:=vg hu;refine ⟨?_,by omega⟩;rw [e];simp;omega
  ·cases h
 ·cases h
theorem zk {N:ρ}: ∀(r:γ ae) (last:ρ) (fs:γ (ρ×ae)),last<=64->iO ag last r=Q fs->(∀p∈r,Ê p<=N)->Ê fs+last<=64/\ ∀f∈fs,f.2.length<=N/\f.1<=64
 | [],last,fs,hl,h,_=>by cases h;exact ⟨by simpa using hl,by simp⟩
 | p::r,last,fs,hl,h,hN=>by
  unfold iO at h;cases hf:fS ag p with
  | none=>rw [hf] at h;cases h
  | some q=>
   obtain ⟨n,t⟩:=q;rw [hf] at h;simp only at h;obtain ⟨h1,h2⟩:=Lv hf;split at h
   ·cases h
   ·rename_i hn;rw [Option.map_eq_some_iff] at h;obtain ⟨gs,hg,rfl⟩:=h;obtain ⟨k1,k2⟩:=zk r n gs h2 hg (fun x hx=>hN x (by simp [hx]));refine ⟨by simp only [μ];omega,fun f hf=> ?_⟩;rcases List.mem_cons.1 hf with rfl | hf
    ·have:=hN p (by simp);exact ⟨by simp only;omega,h2⟩
    ·exact k2 f hf
theorem sD {N:ρ} {v:ae} {x:SV} (h:fV ag v=Q x) (hN: ∀p∈splitB 10 v.dropLast,Ê p<=N):x.title.length<=N/\x.mark.length<=N/\x.facts.length<=64/\ ∀f∈x.facts,f.2.length<=N/\f.1<=64:=by
 unfold fV pN at h;split at h
 ·unfold ic at h;split at h
  ·rename_i a b r hP;simp only [Ϣ] at hP;rw [hP] at hN;split at h
   ·rename_i n t m f h1 h2 h3;cases h;have ha:=hN a (by simp);have hb:=hN b (by simp);obtain ⟨k1,k2⟩:=zk r 0 f (by omega) h3 (fun p hp=>hN p (by simp [hp]));refine ⟨?_,?_,by simpa using k1,k2⟩
    ·unfold pO at h1;split at h1
     ·rename_i w ra hc;obtain ⟨e,_⟩:=eX hc;split at h1
      ·rename_i t' hu;split at h1
       ·cases h1
       ·cases h1;have:=vg hu;have Ŏ:Ê a=Ê w+1+Ê ra:=by rw [e];simp;omega
        simp only;omega
      ·cases h1
     ·cases h1
    ·unfold qX at h2;split at h2
     ·rename_i w rb hc;obtain ⟨e,_⟩:=eX hc;split at h2
      ·have:=vg h2;have Ĕ:Ê b=Ê w+1+Ê rb:=by rw [e];simp;omega
       simp only;omega
      ·cases h2
     ·cases h2
   ·cases h
  ·cases h
 ·cases h
theorem wC {look:Int->Ο ae} (h: ∀u,((look u).getD []).length<=1000): ∀s:ae,(aV look s).1.length<=1000*Ê s:=by
 suffices H: ∀(n:ρ) (s:ae),Ê s<=n->(aV look s).1.length<=1000*Ê s from fun s=>H _ s (Κ _)
 intro n
 induction n with
 | zero=>intro s hs;have:s= []:=List.length_eq_zero_iff.mp (by omega);subst this;simp [lM]
 | succ n ih=>
  intro s hs;cases s with
  | nil=>simp [lM]
  | cons c r=>
   by_cases hp:(ao (c::r)).2=0
   ·rw [od look _ _ hp];have:=ih r (by simp at hs;omega);simp only [μ];omega
   ·obtain ⟨q1,q2,q3,q4,q5⟩:=(c7 (c::r)).resolve_left (fun h=>hp (by rw [h]));rw [mf look _ hp];have h1:=h (ao (c::r)).1;have h2:=ih ((c::r).drop (ao (c::r)).2.toNat) (by simp at hs⊢;omega);simp only [List.length_drop] at h2;cases hl:look (ao (c::r)).1 with
    | none=>simp only;omega
    | some a=>rw [hl] at h1;simp only [Option.getD_some] at h1;simp only [Α];omega
theorem BD {n:ρ} (h1:1<=n) (h2:n<=4):ec (n:Int)=cU n:=by
 have:n=1\/n=2\/n=3\/n=4:=by omega
 rcases this with rfl | rfl | rfl | rfl <;> rfl
theorem Od (unit:Int) (l:γ (Cell×ae)) (hne:l≠ []) (hl:Ê l<1000000)
  (hv1:((ax l (1,unit)).getD []).length<=10000) (hv2:((ax l (2,unit)).getD []).length<900000) (Š: ∀p∈splitB 10 ((ax l (2,unit)).getD []).dropLast,Ê p<=10000) (š: ∀k u,k=3\/k=4->((ax l (k,u)).getD []).length<=1000):
  ar cfg 76 [U V unit,ν O 3 (aN l)] []=Q (eA (cu ag unit l), []):=by
 refine aa aam Tb ?_;have hE:=L6 l;have ą:=fm l;have ĕ:=F3 l;have Ė:=JI (l:=l);have Ā:=fun (B:γ af) (lk:Μ) (hB:af.at B 2= ι 166 [ν O 3 (aN l),τ lk]) (hk:2<Ê B) (hs:shut (Ê B) B=π) (hi:ko (l.map ε)) (kd u:Int)=>Il hB hk hs (fun _=>rfl) hl hi kd u;have Ć:=fun (B:γ af) (hk:2<Ê B) (hs:shut (Ê B) B=π) (hi:ko (l.map ε)) (t:ae) (ht:Ê t<=10000) (lk:Μ)=>Ob (B:=B) (k:=2) (nl:=none) (z:=3) (l:=l) hk hs (fun _=>rfl) hl hi (fun u=>š 4 u (.inr rfl)) t ht lk;simp only [F2] at Ć;obtain ⟨Ţ,hRES⟩: ∃Ţ,Ţ=cu ag unit l:=⟨_,rfl⟩;rw [<-hRES];unfold cu at hRES;generalize hE0:aN l=E at*
 simp (maxSteps:=9^9) (disch:=omega) [-C,-F,-A,-I,-J,om,Oe,ą];refine Wp.az (fun (a:ρ×Ο AV)=>Ê l-a.1) (fun a=> [Q (U V unit),Q (ν O 3 E),Q (ψ 0 0),O,O,O,O,O,O,O,O,O,O,O,Q (U V (Ê l)),Q (U V a.1),O,a.2,O,O,O,O,O,O,O,O,O,O,O,O,O,O,O,O,O,O,O,O,O,O,O,O,O,O,O,O,O,O,O,O,O,O,O]) (fun _=> [ι 58 [U V 0,W [],Ϡ 1 0],Ϝ ⟨ζ,Q 129,O⟩ 3 []]) (fun a=>a.1<=Ê l/\vb l=vb (l.drop (a.1-1))) ?_ (0,O) ⟨by simp,by simp⟩ (by simp) (by simp);rintro ⟨i,o⟩ ⟨Ę,ā⟩;simp only at Ę ā⊢;by_cases h1:i<Ê l
 ·have hg:=hE i h1;by_cases h0:i=0
  ·subst h0;clear Ā Ć ĕ Ė;simp (maxSteps:=9^9) (disch:=omega) [-C,-F,-A,-I,-J,om,h1,hg];exact ⟨1,⟨by omega,by simpa using ā⟩,by omega,by simp⟩
  ·have ţ:=hE (i-1) (by omega);obtain ⟨r1,Ť⟩: ∃r,r=l[i-1]:=⟨_,rfl⟩;obtain ⟨r2,ť⟩: ∃r,r=l[i]:=⟨_,rfl⟩;rw [<-Ť] at ţ;rw [<-ť] at hg;have Ĉ:i-1+1=i:=by omega
   have hs:=BC (l:=l) (i:=i-1) (a:=r1) (b:=r2) (by rw [Ť];exact Z (by omega)) (by rw [Ĉ,ť];exact Z h1);rw [Ĉ] at hs;have hc:=JM r1.1 r2.1;have hc2:=gm r1.1 r2.1;have hi1:((i:Int)-1).toNat=i-1:=by omega
   have Đ:(0:Int)<(i:Int):=by omega
   unfold im at hc;clear Ā Ć ĕ Ė hE Ť ť;generalize gS r1.1 r2.1=cc at*
   generalize eB r1.1 r2.1=bb at*
   by_cases hcc:cc<0
   ·have Ŧ:bb=true:=hc2.1 hcc;subst Ŧ;rw [hs,Bool.true_and] at ā;have ċ: ¬ 0<=cc:=by omega
    simp (maxSteps:=9^9) (disch:=omega) [-C,-F,-A,-I,-J,om,h1,hg,ţ,hc,hi1,Đ,hcc,ċ];exact ⟨i+1,⟨by omega,by simpa using ā⟩,by omega,by simp⟩
   ·have Ŧ:bb=false:=by
     cases bb with
     | false=>rfl
     | true=>exact ύ (hc2.2 rfl) hcc
    subst Ŧ;rw [hs,Bool.false_and] at ā;have ċ:0<=cc:=by omega
    rw [ā,Θ (by simp)] at hRES;subst hRES;simp (maxSteps:=9^9) (disch:=omega) [-C,-F,-A,-I,-J,om,h1,hg,ţ,hc,hi1,Đ,hcc,ċ,eA,oJ,ab]
 ·obtain rfl:i=Ê l:=by omega
  rw [ĕ] at ā;rw [ā,σ rfl] at hRES;have Ą:=Ė ā;clear ĕ Ė hE;have hplE:ak E=true:=by rw [<-hE0];exact aS l
  clear hE0 ā hl hne;obtain ⟨B0,ģ⟩: ∃B0:Μ->γ af,B0=fun lk=> [ι 58 [U V 0,W [],Ϡ 1 0],Ϝ ⟨ζ,Q 129,O⟩ 3 [],ι 166 [ν O 3 E,τ lk]]:=⟨_,rfl⟩;have g1:=Ā (B0 ζ) ζ (by rw [ģ];rfl) (by rw [ģ];simp) (by rw [ģ];simp [shut,aA,AV.under]) Ą 1 unit;have g2:=Ā (B0 (ax l (1,unit)).isNone) (ax l (1,unit)).isNone (by rw [ģ];rfl) (by rw [ģ];simp) (by rw [ģ];simp [shut,aA,AV.under]) Ą 2 unit;rw [ģ] at g1 g2;simp only [Τ,Υ,Bool.false_or] at g1 g2;unfold H7 at hRES;have ŧ:(ax l (1,unit)).getD []≠ []->(ax l (1,unit)).isNone=false:=fun h=>by cases hq:ax l (1,unit) with | none=>rw [hq] at h;exact ύ rfl h | some x=>rfl
  have Ũ:(ax l (2,unit)).getD []≠ []->(ax l (2,unit)).isNone=false:=fun h=>by cases hq:ax l (2,unit) with | none=>rw [hq] at h;exact ύ rfl h | some x=>rfl
  generalize (ax l (1,unit)).getD []=num at*
  generalize (ax l (2,unit)).getD []=Ľ at*
  generalize (ax l (1,unit)).isNone=b1 at*
  generalize (ax l (2,unit)).isNone=b2 at*
  by_cases hem:num= []\/Ľ= []
  ·rw [σ hem] at hRES;subst hRES;clear ŧ Ũ Ā;rcases hem with rfl | rfl
   ·simp (maxSteps:=9^9) (disch:=omega) [-C,-F,-A,-I,-J,om,g1,g2,eA,oJ,ab]
   ·by_cases hn:num= []
    ·subst hn;simp (maxSteps:=9^9) (disch:=omega) [-C,-F,-A,-I,-J,om,g1,g2,eA,oJ,ab]
    ·simp (maxSteps:=9^9) (disch:=omega) [-C,-F,-A,-I,-J,om,g1,g2,eA,oJ,ab,hn]
  rw [Θ hem] at hRES;have Ŋ:num≠ []:=fun h=>hem (.inl h);have hn2:Ľ≠ []:=fun h=>hem (.inr h);have e1:=ŧ Ŋ;have e2:=Ũ hn2;subst e1 e2;clear ŧ Ũ hem;obtain ⟨lev,mark,title,facts,ok,k1,k2,k3⟩:=Lr Ľ hv2 (fun p hp=>by have:=Š p hp;omega);cases ok with
  | false=>have ľ:fV ag Ľ=none:=k2;rw [ľ] at hRES;simp only at hRES;subst hRES;clear Ā;simp (maxSteps:=9^9) (disch:=omega) [-C,-F,-A,-I,-J,om,g1,g2,eA,oJ,ab,Ŋ,hn2,k1]
  | true=>
   have ľ:fV ag Ľ=Q ⟨lev,title,mark,facts⟩:=k2;rw [ľ] at hRES;simp only at hRES;obtain ⟨k4,k5⟩:=k3 rfl;obtain ⟨tl,ml,fl,ŋ⟩:=sD (N:=10000) ľ Š;simp only at tl ml fl ŋ;have w1:=I4 (lev:Int) (by omega) (by omega);rw [BD k4 k5] at w1;have w2:=vB num (by omega);have hdl:aY num<=Ê num:=Ι;have ũ: ∀t:ae,Ê t<=10000->(aV (fun u=>ax l (4,u)) t).1.length<=10000000:=fun t ht=>by have:=wC (look:=fun u=>ax l (4,u)) (fun u=>š 4 u (.inr rfl)) t;omega
   rw [FP] at hRES;have hF:=gE3 facts;have ĩ:=bW DJ facts;generalize facts.map DJ=FA at*
   generalize cU lev=tg at*
   generalize hFF:(iQ l (aY num+1) facts).2=FF at*
   have hw0:IntKind.i64.wrap ((aY num:Int)+1)=aY num+1:=wrap_i64 (by omega) (by omega);obtain ⟨mk,Ĥ⟩: ∃m,m=mark:=⟨_,rfl⟩;generalize hNF:(⟨aY num,tg,num++ [32]++title⟩::(y8 (aY num+1) mark++(iQ l (aY num+1) facts).1):γ Nd)=NF at*
   have hR2:Ţ=if FF=π then (7,O) else (0,Q ⟨unit,num,NF⟩):=by rw [hRES,<-hNF];cases FF <;> rfl
   clear hRES;subst hR2;clear k2 ľ k3 hv2 Š;by_cases hmk:mark= []
   case' pos=>
    obtain ⟨EB,ĝ⟩: ∃EB:γ af,EB= []:=⟨_,rfl⟩;obtain ⟨N0,Ł⟩: ∃N0:γ Nd,N0= [⟨aY num,tg,num++ [32]++title⟩]:=⟨_,rfl⟩;subst hmk;simp (maxSteps:=9^9) (disch:=omega) [-C,-F,-A,-I,-J,om,Oe,g1,g2,k1,w1,w2,ab,Ŋ,hn2,ĩ]
   case' neg=>
    obtain ⟨EB,ĝ⟩: ∃EB:γ af,EB= [Ϝ ⟨ζ,Q 129,O⟩ 3 [ϒ [U V ((aY num:Int)+1),W [109,97,114,107],W mark]],.dead]:=⟨_,rfl⟩;obtain ⟨N0,Ł⟩: ∃N0:γ Nd,N0= [⟨aY num,tg,num++ [32]++title⟩,⟨(aY num:Int)+1, [109,97,114,107],mark⟩]:=⟨_,rfl⟩;simp (maxSteps:=9^9) (disch:=omega) [-C,-F,-A,-I,-J,om,Oe,g1,g2,k1,w1,w2,ab,Ŋ,hn2,ĩ,hmk,hw0]
   all_goals
    obtain ⟨BX,Ğ⟩: ∃BX:γ Nd->Μ->γ af->γ af,BX=fun N lk X=> [ι 58 [U V 0,W [],Ϡ 1 0],Ϝ ⟨ζ,Q 129,O⟩ 3 [],ι 166 [ν O 3 E,τ lk],ι 74 [U V 0,U V 0,U V lev,W mk,W title,ν O 3 FA],Ϝ ⟨ζ,Q 129,O⟩ 3 (N.map dF),ι 58 [U V unit,W num,Ϡ 4 (Ê N)]]++(EB++X):=⟨_,rfl⟩
    refine Wp.az (fun (a:ρ×γ Nd×Fl)=>facts.length-a.1) (fun a=> [O,O,Q (ψ 0 0),O,O,Q (ψ 2 0),O,O,O,O,Q (U V (aY num)),Q (ψ 5 0),O,O,O,O,O,O,O,O,O,O,O,O,O,O,O,O,O,O,O,O,O,O,O,O,O,O,O,Q (ν O 3 FA),Q (U V facts.length),Q (U V a.1),O,O,O,O,O,O,O,O,O,O,O]) (fun a=>BX a.2.1 a.2.2.b [])
     (fun a=>NF=a.2.1++(iQ l (aY num+1) (facts.drop a.1)).1/\flE FF (a.2.2.b || (iQ l (aY num+1) (facts.drop a.1)).2)/\a.1<=facts.length/\a.2.1.length<=a.1+2) ?_ (0,N0,⟨ζ⟩) ⟨by rw [<-hNF,Ł];simp_all [y8],by simp [flE,<-hFF],by simp,by rw [Ł];simp⟩ (by simp) (by rw [Ğ,ĝ,Ł,Ĥ];simp [dF])
    rintro ⟨i,N,⟨lk⟩⟩ ⟨hi,Đ,Ę,hNl⟩;simp only at hi Đ Ę hNl⊢;have Ĉ:FF=(lk || (iQ l (aY num+1) (facts.drop i)).2):=Đ;clear Đ hFF hNF Ł;by_cases q1:i<facts.length
    ·have hg:=hF i q1;obtain ⟨ftl,fel⟩:=ŋ _ (χ q1);rw [η q1] at hi Ĉ;simp only [iQ] at hi Ĉ;have x1:=Ā (BX N lk [ι 76 [U V facts[i].1,W [],W facts[i].2]]) lk (by rw [Ğ];rfl) (by simp [Ğ,ĝ]) (by simp [Ğ,ĝ,shut,aA,AV.under,dG]) Ą 3 facts[i].1;have x2:=Ć (BX N lk [ι 76 [U V facts[i].1,W [],W facts[i].2],.dead,.dead]) (by simp [Ğ,ĝ]) (by simp [Ğ,ĝ,shut,aA,AV.under,dG]) Ą facts[i].2 ftl (lk || (ax l (3,(facts[i].1:Int))).isNone);subst Ğ;subst ĝ Ĥ;simp only [Τ,Υ,φ,ω] at x1 x2;have hb1:=š 3 facts[i].1 (.inl rfl);have hb2:=ũ facts[i].2 ftl;have hNm:=bW dF N;have hw:IntKind.i64.wrap ((aY num:Int)+1)=aY num+1:=wrap_i64 (by omega) (by omega);clear Ā Ć hF ŋ ũ;generalize facts[i]=f at*
     generalize (ax l (3,(f.1:Int))).getD []=lab at*
     generalize (ax l (3,(f.1:Int))).isNone=b3 at*
     generalize (aV (fun u=>ax l (4,u)) f.2).1=xt at*
     generalize (aV (fun u=>ax l (4,u)) f.2).2=b4 at*
     simp (maxSteps:=9^9) (disch:=omega) [-C,-F,-A,-I,-J,om,q1,hg,ab,x1,x2,hw,hNm,ĩ];exact ⟨i+1,N++ [⟨(aY num:Int)+1, [112],lab++58::32::xt⟩],⟨lk || b3 || b4⟩,⟨by rw [hi];simp,by show FF=_;rw [Ĉ];simp [Ϛ],by omega,by simp;omega⟩,by omega,by simp,rfl,by simp [dF],by simp⟩
    ·rw [ξ (by omega)] at hi Ĉ;simp only [iQ,Λ,ϛ] at hi Ĉ;subst hi Ĉ;subst Ğ;subst ĝ Ĥ;clear Ā Ć hF ŋ ũ;cases FF with
     | true=>simp (maxSteps:=9^9) (disch:=omega) [-C,-F,-A,-I,-J,om,q1,ab,ĩ,eA,oJ]
     | false=>simp (maxSteps:=9^9) (disch:=omega) [-C,-F,-A,-I,-J,om,q1,ab,ĩ,eA,cH]
theorem Ra (lk:Μ) (kd u:Int):ar cfg 132 [ψ 2 0,U V kd,U V u] [ι 58 [U V 0,W [],Ϡ 1 0],Ϝ ⟨ζ,Q 129,O⟩ 3 [],ι 166 [Ϡ 3 0,τ lk],Ϝ ⟨ζ,Q 99,O⟩ 3 []]=Q (W [], [ι 58 [U V 0,W [],Ϡ 1 0],Ϝ ⟨ζ,Q 129,O⟩ 3 [],ι 166 [Ϡ 3 0,τ π],Ϝ ⟨ζ,Q 99,O⟩ 3 []]):=by
 refine aa S9 Oa ?_;obtain ⟨i,h1,h2⟩:=BB O 3 [] (fun _=>rfl) (by simp) trivial (kd,u);simp only [aN,Ψ,ax,ϙ,Ϙ,Option.isSome_none] at h1;unfold im at h1;simp only at h1;simp (maxSteps:=9^9) (disch:=omega) [-C,-F,-A,-I,-J,om,JO,h1,ab]
 trace_state
theorem Lw (unit:Int) (nl:Ο Μ) (z:ρ):ar cfg 76 [U V unit,ν nl z []] []=Q (eA (7,O), []):=by
 refine aa aam Tb ?_;have Ā:=fun (lk:Μ) (kd:Int)=>Il (nl:=nl) (z:=z) (l:= []) (B:= [ι 58 [U V 0,W [],Ϡ 1 0],Ϝ ⟨ζ,Q 129,O⟩ 3 [],ι 166 [ν nl z [],τ lk]]) (k:=2) (lk:=lk) rfl (by simp) (by simp [shut,aA,AV.under,dG]) (fun h=>ύ rfl h) (by simp) trivial kd unit;have č:=fun (lk:Μ) (kd:Int)=>Ra lk kd unit;simp only [aN,Ψ,ax,ϙ,Ϙ,Option.getD_none,Option.isNone_none,Bool.or_true,Τ,Υ] at Ā;simp (maxSteps:=9^9) (disch:=omega) [-C,-F,-A,-I,-J,om,Oe];refine Wp.az (fun (i:ρ)=>0) (fun i=> [Q (U V unit),Q (ν nl z []),Q (ψ 0 0),O,O,O,O,O,O,O,O,O,O,O,Q (U V 0),Q (U V 0),O,O,O,O,O,O,O,O,O,O,O,O,O,O,O,O,O,O,O,O,O,O,O,O,O,O,O,O,O,O,O,O,O,O,O,O,O]) (fun _=> [ι 58 [U V 0,W [],Ϡ 1 0],Ϝ ⟨ζ,Q 129,O⟩ 3 []]) (fun i=>True) ?_ 0 trivial (by simp) (by simp);rintro i _;rcases nl with _ | (_ | _)
 ·simp (maxSteps:=9^9) (disch:=omega) [-C,-F,-A,-I,-J,om,Ā,č,eA,oJ,ab]
 ·simp (maxSteps:=9^9) (disch:=omega) [-C,-F,-A,-I,-J,om,Ā,č,eA,oJ,ab]
 ·simp (maxSteps:=9^9) (disch:=omega) [-C,-F,-A,-I,-J,om,Ā,č,eA,oJ,ab]
  trace_state
