/- The reference of layer 52: -/
import Derived.Test.YtfgbpngakkhdcaaGreatDoorUpM
open Bool renaming true->U,false_and->T,false_eq_true->M
open Go.Am.AV renaming ah->ι,bool->ζ,int->P,ptr->ψ,str->θ
open Go.Am.af renaming var->π
open Go.IntKind renaming i64->Q
open Go.Lib renaming itoa->I
open List renaming length->Ê,all_cons->ο,all_nil->ρ,append_nil->μ,drop_eq_getElem_cons->L,drop_eq_nil_of_le->Y,getD_eq_getElem?_getD->A,getElem?_map->ε,getElem_mem->W,length_dropLast->γ,length_filter_le->Z,length_map->R,length_take->η,map_append->κ,map_congr_left->δ,map_map->X,map_replicate->B,map_set->C,mem_map->υ,take_length->O,take_succ_eq_append_getElem->K
open Nat renaming sub_self->τ,zero_add->σ
open Option renaming none->H,some->J
open _root_ renaming List->ξ,Option->χ,getElem?_neg->G,getElem?_pos->F,if_false->ν,if_true->φ
set_option linter.all false
namespace Go.Proofs.YtfgbpngakkhdcaaGreatDoor
open Go.Am
set_option maxRecDepth 10000
set_option maxHeartbeats 8000000
theorem qC (k:Kp) (hk:k.ok) (Ā: ∀m∈k.b8,∀r∈m.c.1,r.2.length<=1000):ar cfg 20 [ja k] []=J (P Q (db ag k.cs), []):=by
 refine aa ad8 aaT ?_;have wf:=fun i hi u=>Gk k hk i hi u;obtain ⟨ku,kl,km,mn,mz⟩:=k;have ĉ:=hk.mz;have Ĕ:=hk.ml;have Ă:=hk.me;simp only at ĉ Ĕ Ă Ā wf;have hE:=sG cV km;have ā:=bW cV km;have hp:=bE km
 have hu: ∀i u,(0:Int)<=jv u ((km.take i).map Me.c) 0↔u∈(km.take i).map fun m=>m.c.2.unit:=fun i u=>by
  rw [Lj];unfold mh;rw [X];rfl
 have Ć:=fun i h=>BL (l:=km) (i:=i) h;have Ċ:=wF (l:=km);obtain ⟨ix,Ĭ⟩: ∃ix:Nat->Int->Int,ix=fun i u=>jv u ((km.take i).map Me.c) 0:=⟨_,rfl⟩;have ĕ: ∀i u,jv u ((km.take i).map Me.c) 0=ix i u:=fun i u=>by rw [Ĭ]
 obtain ⟨US,Ė⟩: ∃US:Nat->ξ Int,US=fun i=>(km.take i).map fun m=>m.c.2.unit:=⟨_,rfl⟩;have ė: ∀i,((km.take i).map fun m=>m.c.2.unit)=US i:=fun i=>by rw [Ė]
 have ġ: ∀i (h:i<Ê km),US (i+1)=US i++ [km[i].c.2.unit]:=fun i h=>by
  rw [Ė];simp only;rw [K h,κ];rfl
 have Ģ:US 0= []:=by rw [Ė];rfl
 have ģ:US (Ê km)=km.map fun m=>m.c.2.unit:=by rw [Ė];simp only [O]
 unfold Kp.cs ja wV;simp only;unfold ja wV at wf;simp only [ĕ,ė] at wf hu Ć;obtain ⟨V,hV⟩: ∃V,V=db ag (km.map Me.c):=⟨_,rfl⟩;rw [<-hV] at Ċ⊢;simp only [<-hV] at Ć;have wS: ∀m∈km,ar cfg 44 [P Q m.c.2.unit,ι m.rn m.rz (aN m.c.1)] []=J (eA (cu ag m.c.2.unit m.c.1), []):=fun m hm=>Gl _ _ (Ā m hm) (Ă m hm).rl _ _ (Ă m hm).rz;have wN: ∀m∈km,ar cfg 45 [cV m] []=J (ζ (pT ag m.c), []):=fun m hm=>LM m (Ă m hm) (Ā m hm);have wE: ∀m∈km,∀t:mv,t.nodes.length<1000000->ar cfg 39 [.agg [P Q t.unit,θ t.num,ι H 3 (t.nodes.map dF)],.agg [P Q m.c.2.unit,θ m.c.2.num,ι m.nn m.nz (m.c.2.nodes.map dF)]] []=J (ζ (decide (t=m.c.2)), []):=fun m hm t ht=>zt _ _ _ _ _ _ (fun _=>rfl) (Ă m hm).nz ht (Ă m hm).nl
 have Ĥ: ∀m∈km,∀t,(cu ag m.c.2.unit m.c.1).2=J t->t.nodes.length<1000000:=fun m hm t ht=>Gf (N:=10000) (fun p hp=>by
  have h1:=(eY _ p hp).2;have h2:=γ (xs:=(ax m.c.1 (2,m.c.2.unit)).getD []);have h3:=JZ (Ā m hm) (2,m.c.2.unit);omega) ht
 clear hV Ė ė Ĭ ĕ Ă Ā;generalize km.map cV=KM at*
 simp (maxSteps:=9^9) (disch:=omega) [-B,-C,-A,-F,-G,om,aaU,ab,ā,hp]
 refine Wp.az (fun (i:Nat)=>Ê km-i) (fun i=> [H,J (ψ 0 0),H,J (P Q i),H,H,H,H,H,H,H,H,H,H,H]) (fun _=> [π 31 [P Q ku,θ kl,ι mn mz KM]])
  (fun i=>i<=Ê km/\(US i).Nodup) ?_ 0 ⟨by omega,by rw [Ģ];exact List.nodup_nil⟩ (by simp) (by simp)
 rintro i ⟨Č,ĥ⟩;by_cases h1:i<Ê km
 ·have hg:=hE i h1;obtain rfl:=ĉ (ne_of_lt h1);have hs:=ġ i h1;have hd:=Ć i h1;have w1:=wf i (by omega) km[i].c.2.unit;have hx:=hu i km[i].c.2.unit;clear hE ġ Ć wf hu wS wN wE Ĥ Ċ Ģ ģ;generalize km[i]=v at*
  have Ĉ:=gj v;unfold cV at hg Ĉ;generalize ix i v.c.2.unit=x at*
  by_cases hin:v.c.2.unit∈US i
  ·have hd:=hd hin;have hx:=hx.2 hin;clear hs;simp (maxSteps:=9^9) (disch:=omega) [-B,-C,-A,-F,-G,om,h1,hg,ā,ab,w1,Ĉ,hp,hx,hd]
  ·have hx: ¬ 0<=x:=fun h=>hin (hx.1 h);clear hd;simp (maxSteps:=9^9) (disch:=omega) [-B,-C,-A,-F,-G,om,h1,hg,ā,ab,w1,Ĉ,hp,hx];refine ⟨i+1,⟨by omega,?_⟩,by omega,by simp⟩;rw [hs,List.nodup_append]
   exact ⟨ĥ,by simp,fun a ha b hb=>by
    simp only [List.mem_singleton] at hb;subst hb;exact fun e=>hin (e▸ha)⟩
 ·obtain rfl:i=Ê km:=by omega
  have hV:=Ċ (by rw [<-ģ];exact ĥ);clear ĥ ġ ģ Ģ Ć Ċ wf hu;simp (maxSteps:=9^9) (disch:=omega) [-B,-C,-A,-F,-G,om,ā,ab,hp]
  refine Wp.az (fun (x:Nat×χ AV×χ AV)=>Ê km-x.1) (fun x=> [H,J (ψ 0 0),H,H,J (P Q x.1),H,H,H,H,H,H,H,x.2.1,x.2.2,H]) (fun _=> [π 31 [P Q ku,θ kl,ι mn mz KM]])
   (fun x=>V=(if ((km.drop x.1).all fun m=>ig ag m.c)=U then 0 else 14)/\x.1<=Ê km) ?_ (0,H,H) ⟨by rw [List.drop_zero];exact hV,by simp⟩ (by simp) (by simp)
  clear hV;rintro ⟨i,o,o'⟩ ⟨hV,Č⟩;simp only at hV Č⊢;by_cases h1:i<Ê km
  ·have hg:=hE i h1;obtain rfl:=ĉ (ne_of_lt h1);have hm:=W h1;have w1:=wS _ hm;have w2:=wN _ hm;have w3:=wE _ hm;have w4:=Ĥ _ hm;rw [L h1,ο] at hV;clear hE wS wN wE Ĥ hm;generalize km[i]=v at*
   have Ĉ:=gj v;have ĭ:ig ag v.c=(decide (cu ag v.c.2.unit v.c.1=(0,J v.c.2))&&pT ag v.c):=rfl;rw [ĭ] at hV;clear ĭ;rw [uo] at w1;by_cases h0:(cu ag v.c.2.unit v.c.1).1=0
   case neg=>
    have q1:decide (cu ag v.c.2.unit v.c.1=(0,J v.c.2))=false:=by simp only [decide_eq_false_iff_not];intro h;exact h0 (by rw [h])
    rw [q1,T,T,if_neg (by simp)] at hV;have h2:((cu ag v.c.2.unit v.c.1).1 !=0)=true:=by simpa using h0
    obtain ⟨u,n,nl2,z2,ns,hv⟩:=oj (cu ag v.c.2.unit v.c.1).2;have pn:=aM ns;rw [hv] at w1;subst hV;clear hv w2 w3 w4 q1;unfold cV at hg Ĉ;generalize (cu ag v.c.2.unit v.c.1).1=q at*
    generalize ns.map dF=NS at*
    generalize aN v.c.1=RR at*
    generalize v.c.2.nodes.map dF=NN at*
    simp (maxSteps:=9^9) (disch:=omega) [-B,-C,-A,-F,-G,om,h1,hg,ā,ab,w1,Ĉ,hp,h0,h2,pn]
   obtain ⟨t,ht⟩:=zy h0;have w3:=w3 t (w4 t ht);rw [ht,h0] at w1
   have hd:decide (cu ag v.c.2.unit v.c.1=(0,J v.c.2))=decide (t=v.c.2):=by rw [show cu ag v.c.2.unit v.c.1=(0,J t) from Prod.ext h0 ht,Bool.eq_iff_iff];simp
   rw [hd] at hV;have pt:=aM t.nodes;unfold Rv cH at w1;simp only at w1;clear w4 hd ht h0;generalize decide (t=v.c.2)=dd at*
   generalize pT ag v.c=nb at*
   unfold cV at hg Ĉ w2;generalize t.nodes.map dF=TN at*
   generalize aN v.c.1=RR at*
   generalize v.c.2.nodes.map dF=NN at*
   cases dd with
   | false=>simp only [T,M,ν] at hV;subst hV;clear w2;simp (maxSteps:=9^9) (disch:=omega) [-B,-C,-A,-F,-G,om,h1,hg,ā,ab,w1,w3,Ĉ,hp,pt]
   | true=>
    cases nb with
    | false=>simp only [Bool.and_false,T,M,ν] at hV;subst hV;simp (maxSteps:=9^9) (disch:=omega) [-B,-C,-A,-F,-G,om,h1,hg,ā,ab,w1,w2,w3,Ĉ,hp,pt]
    | true=>
     simp only [Bool.true_and] at hV;generalize hq:((km.drop (i+1)).all fun m=>ig ag m.c)=q at*
     simp (maxSteps:=9^9) (disch:=omega) [-B,-C,-A,-F,-G,om,h1,hg,ā,ab,w1,w2,w3,Ĉ,hp,pt];exact ⟨i+1,J (ζ U),J (ζ U),⟨by rw [<-hq] at hV;simpa using hV,by omega⟩,by omega,by simp,rfl,rfl⟩
  ·rw [Y (by omega),ρ] at hV;simp only [φ] at hV;subst hV;simp (maxSteps:=9^9) (disch:=omega) [-B,-C,-A,-F,-G,om,h1,ā,ab,hp]
theorem Gm {l:ξ AV} {i:Nat} {x:AV} (h:l[i]?=J x):l.set i x=l:=by obtain ⟨h1,h2⟩:=List.getElem?_eq_some_iff.1 h;rw [<-h2,List.set_getElem_self]
theorem OD (c:Ct) (k:Kp) (hk:k.ok) (Ā: ∀m∈k.b8,∀r∈m.c.1,r.2.length<=1000) (h:db ag k.cs≠0):ar cfg 18 [ja k,br c] []=J (.aK [Iw,ι (J U) 0 [],P Q (db ag k.cs)], []):=by
 refine aa We OE ?_;have w:=qC k hk Ā;have h2:(db ag k.cs !=0)=true:=by simpa using h
 have pk:=bE k.b8;have pc:(br c).plain=true:=by simp [br,dm,AV.plain,ak]
 unfold Iw br ja dm wV at*
 generalize db ag k.cs=e at*
 generalize k.b8.map cV=KM at*
 generalize au c.ad=L1 at*
 generalize c.av.map dc=L2 at*
 generalize c.ai.map bw=L3 at*
 simp (maxSteps:=9^9) (disch:=omega) [-B,-C,-A,-F,-G,om,Rx,w,h,h2,pk,pc,ab]
theorem OF (c:Ct) (hc:c.ok) (k:Kp) (hk:k.ok) (Ā: ∀m∈k.b8,∀r∈m.c.1,r.2.length<=1000) (Đ:db ag k.cs=0) (h:aW c k.unit k.lang≠0):ar cfg 18 [ja k,br c] []=J (.aK [Iw,ι (J U) 0 [],P Q (aW c k.unit k.lang)], []):=by
 refine aa We OE ?_;have w:=qC k hk Ā;have w2:=Gi c hc k.unit k.lang h;rw [Đ] at w;have h2:(aW c k.unit k.lang !=0)=true:=by simpa using h
 have pk:=bE k.b8;have pc:(br c).plain=true:=by simp [br,dm,AV.plain,ak]
 unfold Iw br ja dm wV at*
 generalize aW c k.unit k.lang=e at*
 generalize k.b8.map cV=KM at*
 generalize au c.ad=L1 at*
 generalize c.av.map dc=L2 at*
 generalize c.ai.map bw=L3 at*
 simp (maxSteps:=9^9) (disch:=omega) [-B,-C,-A,-F,-G,om,Rx,w,w2,h,h2,pk,pc,ab]
def fE (km:ξ Me) (u:Int):χ Me:=if 0<=jv u (km.map Me.c) 0 then km[(jv u (km.map Me.c) 0).toNat]? else H
theorem OG (km:ξ Me) (u:Int):(jv u (km.map Me.c) 0= -1/\fE km u=H/\oH (km.map Me.c) u=H)\/ ∃(k:Nat) (m:Me),jv u (km.map Me.c) 0=(k:Int)/\fE km u=J m/\km[k]?=J m/\oH (km.map Me.c) u=J m.c/\k<Ê km/\m∈km:=by
 rcases sC u (km.map Me.c) 0 with ⟨k,m,h1,h2,h3⟩ | ⟨h1,h2⟩
 ·rw [ε,Option.map_eq_some_iff] at h3;obtain ⟨x,hx,rfl⟩:=h3;rw [σ] at h2;refine .inr ⟨k,x,h2,?_,hx,h1,?_,List.mem_of_getElem? hx⟩
  ·unfold fE;rw [h2,if_pos (by omega),Int.toNat_natCast];exact hx
  ·obtain ⟨h,_⟩:=List.getElem?_eq_some_iff.1 hx;exact h
 ·refine .inl ⟨h2,?_,h1⟩;unfold fE;rw [h2,if_neg (by decide)]
theorem OH (c:Ct) (hc:c.ok) (k:Kp) (hk:k.ok) (Ā: ∀m∈k.b8,∀r∈m.c.1,r.2.length<=1000) (Đ:db ag k.cs=0) (h:aW c k.unit k.lang=0): ∃k':Kp,ar cfg 18 [ja k,br c] []=J (.aK [ja k',ι H 1 (fa (ju I aB c k.unit k.lang k.cs)),P Q 0], [])/\k'.ok/\k'.unit=k.unit/\k'.lang=k.lang/\k'.cs=bY I aB c k.unit k.lang k.cs:=by
 have w:=qC k hk Ā;rw [Đ] at w;obtain ⟨ku,kl,km,mn,mz⟩:=k;have ĉ:=hk.mz;have Ĕ:=hk.ml;have Ă:=hk.me;have wf:=fun u=>Gk ⟨ku,kl,km,mn,mz⟩ hk (Ê km) (Nat.le_refl _) u;simp only [O] at wf;unfold Kp.cs at*
 simp only at w h ĉ Ĕ Ă⊢;have wa:=uq c hc ku kl [] (.none) h;have pk:=bE km;have wb:=uq c hc ku kl _ (.upd ku kl mn mz (km.map cV) pk) h;simp only [List.length_nil,List.length_cons,List.nil_append,List.cons_append,σ,Nat.reduceAdd] at wa wb;have pc:(br c).plain=true:=by simp [br,dm,AV.plain,ak]
 obtain ⟨S,hS⟩: ∃S,S=fp I c ku kl:=⟨_,rfl⟩;obtain ⟨rd,Ę⟩: ∃rd:Int->ξ (Cell×ae),rd=fun u=>(bX I aB c ku kl u).1:=⟨_,rfl⟩;obtain ⟨st,č⟩: ∃st:ξ (Cell×ae)->Bool,st=gz (eV I aB c kl ku):=⟨_,rfl⟩;have hst: ∀m∈km,ar cfg 42 [br c,P Q ku,θ kl,ι m.rn m.rz (aN m.c.1)] []=J (ζ (st m.c.1), []):=fun m hm=>by rw [č];exact LF c hc ku kl m.rn m.rz m.c.1 (Ă m hm).rz (Ă m hm).rl
 obtain ⟨nw,đ⟩: ∃nw:mv->Me,nw=fun s=>⟨(rd s.unit,s),H,3,H,3⟩:=⟨_,rfl⟩;obtain ⟨ă,ċ⟩: ∃ă:mv->Me,ă=fun s=>match fE km s.unit with | some m=>if st m.c.1=U then nw s else m | none=>nw s:=⟨_,rfl⟩
 obtain ⟨an,Ħ⟩: ∃an:mv->Bool,an=fun s=>match fE km s.unit with | some m=>st m.c.1 | none=>true:=⟨_,rfl⟩
 have ć: ∀s,q9 I aB c ku kl (km.map Me.c) s=((ă s).c,an s):=fun s=>by
  unfold q9 Bv;rw [ċ,Ħ];simp only;rcases OG km s.unit with ⟨_,e2,e3⟩ | ⟨k,m,_,e2,_,e3,_⟩
  ·simp only [e2,e3,đ,Ę]
  ·have Ņ:H9 I aB c ku kl m.c.1=st m.c.1:=by rw [č];rfl
   simp only [e2,e3,Ņ];cases st m.c.1
   ·simp
   ·simp [đ,Ę]
 have hM:bY I aB c ku kl (km.map Me.c)=S.map fun s=>(ă s).c:=by unfold bY;rw [<-hS];exact δ fun s _=>by rw [ć]
 have hA:ju I aB c ku kl (km.map Me.c)=(S.filter an).map mv.unit:=by unfold ju;rw [<-hS];congr 1;exact List.filter_congr fun s _=>by rw [ć]
 have Į:(bY I aB c ku kl []).map uw=S.map fun s=>cV (nw s):=by unfold bY;rw [<-hS,X];exact δ fun s _=>by rw [đ,Ę];rfl
 have ę:(bY I aB c ku kl []).length=Ê S:=by unfold bY;rw [<-hS,R]
 have ņ:Ê S<1000000:=by rw [hS];unfold fp;rw [R];have h5:=(gB I ku c.ai ⟨[], []⟩).1;have h6:=hc.sl;omega
 have Ď: ∀s∈S,(nw s).ok:=fun s hs=>by
  rw [đ];refine ⟨fun _=>rfl,fun _=>rfl,by rw [Ę];exact BJ _ ku s.unit kl,?_⟩;rw [hS] at hs;obtain ⟨x,hx,rfl⟩:=List.mem_map.1 hs;exact Gg (cj (c5 (eh h)).1) _ ((gB I ku c.ai ⟨[], []⟩).2 _ hx)
 have Ě: ∀s∈S,(ă s).ok:=fun s hs=>by
  rw [ċ];simp only;rcases OG km s.unit with ⟨_,e2,_⟩ | ⟨k,m,_,e2,_,_,_,hm⟩
  ·rw [e2];exact Ď s hs
  ·rw [e2];simp only;split
   ·exact Ď s hs
   ·exact Ă m hm
 have ď:(⟨ku,kl,S.map ă,H,4⟩:Kp).ok:=⟨fun _=>rfl,by simpa using ņ,fun m hm=>by
  obtain ⟨s,hs,rfl⟩:=List.mem_map.1 hm;exact Ě s hs⟩
 have wc:=Gn ⟨ku,kl,S.map ă,H,4⟩ ď
 refine ⟨Ac ⟨ku,kl,S.map ă,H,4⟩,aa We OE ?_,zz ď,rfl,rfl,by
  have:=sE ⟨ku,kl,S.map ă,H,4⟩;unfold Kp.cs at this;simp only at this;rw [this,hM,X];rfl⟩
 rw [hA];rw [Į,ę] at wa wb;have į: ∀s,ă s=match fE km s.unit with | some m=>if st m.c.1=U then nw s else m | none=>nw s:=fun s=>by rw [ċ]
 have İ: ∀s,an s=match fE km s.unit with | some m=>st m.c.1 | none=>true:=fun s=>by rw [Ħ]
 have ı: ∀s,cV (nw s)= .agg [ι H 3 (aN (rd s.unit)),P Q s.unit,θ s.num,ι H 3 (s.nodes.map dF)]:=fun s=>by rw [đ];rfl
 obtain ⟨DD,hDD⟩: ∃DD:Nat->ξ AV,DD=fun i=>(S.take i).map (fun s=>cV (ă s))++(S.drop i).map (fun s=>cV (nw s)):=⟨_,rfl⟩;obtain ⟨NL,ě⟩: ∃NL:Nat->Nat,NL=fun i=>((S.take i).filter an).length:=⟨_,rfl⟩;obtain ⟨NN,Ē⟩: ∃NN:Nat->ξ AV,NN=fun i=>fa (((S.take i).filter an).map mv.unit):=⟨_,rfl⟩;have Ĵ:(S.map fun s=>cV (nw s))=DD 0:=by rw [hDD];simp
 have ĵ:(S.map ă).map cV=DD (Ê S):=by rw [hDD];simp only [O,List.drop_length,List.map_nil,μ,X];rfl
 have Ķ: ∀i,i<=Ê S->(DD i).length=Ê S:=fun i hi=>by
  rw [hDD];simp only [List.length_append,R,η,List.length_drop];omega
 have ķ: ∀i (h:i<Ê S),(DD i)[i]?=J (cV (nw S[i]))/\(DD i).set i (cV (ă S[i]))=DD (i+1):=fun i h=>by
  rw [hDD];simp only;have hl:((S.take i).map fun s=>cV (ă s)).length=i:=by simp;omega
  rw [L h,List.map_cons];constructor
  ·rw [List.getElem?_append_right (by omega),hl,τ];rfl
  ·rw [List.set_append_right _ _ (by omega),hl,τ,List.set_cons_zero,K h,κ,List.append_assoc];rfl
 have ħ: ∀i,ak (DD i)=true:=fun i=>by
  letI:Kn:=⟨[],fun p hp=>by cases hp⟩;rw [hDD,ea];intro x hx;simp only [List.mem_append,υ] at hx;rcases hx with ⟨s,_,rfl⟩ | ⟨s,_,rfl⟩ <;> exact gj _
 have ĸ:NN 0= []:=by rw [Ē];rfl
 have Ĺ:NL 0=0:=by rw [ě];rfl
 have ĺ:fa ((S.filter an).map mv.unit)=NN (Ê S):=by rw [Ē];simp only [O]
 have Ļ: ∀i (h:i<Ê S),NN (i+1)=NN i++(if an S[i]=U then [P Q S[i].unit] else [])/\NL (i+1)=NL i+(if an S[i]=U then 1 else 0):=fun i h=>by
  rw [Ē,ě];simp only;rw [K h,List.filter_append];cases hq:an S[i] <;> simp [hq,fa]
 have ļ: ∀i,(NN i).length=NL i:=fun i=>by rw [Ē,ě];simp [fa]
 have Ľ: ∀i,i<=Ê S->NL i<=i:=fun i hi=>by
  rw [ě];have:=Z an (S.take i);rw [η] at this;simp only;omega
 have ľ: ∀i,ak (NN i)=true:=fun i=>by rw [Ē];exact gC _
 have Ł:=fun u=>OG km u;have hE: ∀i (m:Me),km[i]?=J m->(km.map cV)[i]?=J (cV m):=fun i m h=>by rw [ε,h];rfl
 have ā:=bW cV km;unfold ja wV at wc;simp only at wc;rw [ĵ] at wc;rw [ĺ];rw [Ĵ] at wa wb;have ł:=bE (Ac ⟨ku,kl,S.map ă,H,4⟩).b8;unfold Ac at wc ł;unfold Ac;unfold br ja dm wV at*
 simp only at*
 generalize ((S.map ă).map OI).map cV=CM at*
 clear ć hM hA Į ę Ď Ě ď hS Ę đ ċ Ħ hDD ě Ē ĵ ĺ Ĵ č;generalize km.map cV=KM at*
 generalize au c.ad=L1 at*
 generalize c.av.map dc=L2 at*
 generalize c.ai.map bw=L3 at*
 have pS:ak ((fp I c ku kl).map cH)=true:=df (fun x=>by simp [cH,AV.plain,aM]) _;generalize (fp I c ku kl).map cH=SA at*
 have Ĝ:=ħ 0;simp (maxSteps:=9^9) (disch:=omega) [-B,-C,-A,-F,-G,om,Rx,w,wa,wb,pk,pc,Ĝ,pS,ab];clear wa wb w
 refine Wp.az (fun (x:Nat×χ AV)=>Ê S-x.1) (fun x=> [H,H,J (ψ 0 0),J (ψ 1 0),J (ψ 2 0),H,H,H,J (ψ 4 0),H,J (.aC 11 (NL x.1)),J (P Q x.1),H,H,H,H,H,H,H,H,H,H,x.2,H,H,H,H])
  (fun x=> [π 31 [P Q ku,θ kl,ι mn mz KM],π 26 [ι c.ln c.lz L1,ι c.bn c.bz L2,ι c.sn c.sz L3],π 31 [P Q 0,θ [],.aC 3 0],.sl ⟨false,J 60,H⟩ 4 [],π 31 [P Q ku,θ kl,.aC 10 (Ê S)],
   π 26 [ι c.ln c.lz L1,ι c.bn c.bz L2,ι c.sn c.sz L3],π 31 [P Q ku,θ kl,.aC 10 (Ê S)],.sl ⟨false,J 60,H⟩ 4 [],π 49 [P Q ku,θ kl,ι H 3 SA],π 31 [P Q ku,θ kl,.aC 10 (Ê S)],.sl ⟨false,J 60,H⟩ 4 (DD x.1),.sl ⟨false,J 3,H⟩ 1 (NN x.1)])
  (fun x=>x.1<=Ê S) ?_ (0,H) (by simp) (by simp [Ĺ]) (by simp [ĸ])
 clear ĸ Ĺ Ĝ;rintro ⟨i,o⟩ Č;simp only at Č⊢;have q1:=Ķ i Č;have q2:=ħ i;have q3:=ļ i;have q4:=Ľ i Č;have q5:=ľ i;by_cases h1:i<Ê S
 ·obtain ⟨hg,Ą⟩:=ķ i h1;obtain ⟨e2,e3⟩:=Ļ i h1;have hp:=į S[i];have ha:=İ S[i];have hf:=Ł S[i].unit;have hn:=ı S[i];have w1:=wf S[i].unit;clear ķ Ļ į İ Ł ı wf Ķ ħ ļ Ľ ľ wc;generalize S[i]=s at*
  rw [hn] at hg;have p1:=aS (rd s.unit);have p2:=aM s.nodes;generalize s.nodes.map dF=NS at*
  generalize aN (rd s.unit)=RS at*
  rcases hf with ⟨f1,f2,_⟩ | ⟨k,m,f1,f2,f3,_,f4,f5⟩
  ·rw [f1] at w1;rw [f2] at hp ha;simp only at hp ha;rw [hp,hn,Gm hg] at Ą;simp only [ha,φ] at e2 e3;clear hst hE;simp (maxSteps:=9^9) (disch:=omega) [-B,-C,-A,-F,-G,om,h1,hg,ā,ab,w1,q1,q2,q3,q5,pk,pc,pS,p1,p2];exact ⟨i+1,by omega,by omega,⟨e3.symm,by simp⟩,Ą,e2.symm⟩
  ·rw [f1] at w1;rw [f2] at hp ha;simp only at hp ha;obtain rfl:=ĉ (ne_of_lt f4);have ē:=hE k m f3;have ğ:=hst m f5;have pm:=gj m;unfold cV at ē pm;clear hst hE;cases hq:st m.c.1 with
   | true=>rw [hq] at ğ;simp only [hq,φ] at hp ha;rw [hp,hn,Gm hg] at Ą;simp only [ha,φ] at e2 e3;simp (maxSteps:=9^9) (disch:=omega) [-B,-C,-A,-F,-G,om,h1,hg,ā,ab,w1,ē,ğ,pm,q1,q2,q3,q5,pk,pc,pS,p1,p2,f4];exact ⟨i+1,by omega,by omega,⟨e3.symm,by simp⟩,Ą,e2.symm⟩
   | false=>rw [hq] at ğ;simp only [hq,M,ν] at hp ha;rw [hp] at Ą;unfold cV at Ą;simp only [ha,M,ν,μ,Nat.add_zero] at e2 e3;simp (maxSteps:=9^9) (disch:=omega) [-B,-C,-A,-F,-G,om,h1,hg,ā,ab,w1,ē,ğ,pm,q1,q2,q3,q5,pk,pc,pS,p1,p2,f4];exact ⟨i+1,by omega,by omega,⟨e3.symm,by simp⟩,Ą,e2.symm⟩
 ·obtain rfl:i=Ê S:=by omega
  simp (maxSteps:=9^9) (disch:=omega) [-B,-C,-A,-F,-G,om,h1,ā,ab,wc,q1,q2,q3,q5,pk,pc,pS,ł]
structure Ry (k:Kp):Prop where
 ml:k.b8.length<=14
 ll:k.lang.length<=10
 rl: ∀m∈k.b8,m.c.1.length<=30
 rb: ∀m∈k.b8,∀r∈m.c.1,r.2.length<=1000
 nl: ∀m∈k.b8,m.c.2.nodes.length<=12
theorem Rz (k:Kp) (hk:k.Af): ∃b,ar cfg 15 [ja k] []=J (ζ b, [])/\(b=true->Ry k):=by
 obtain ⟨ku,kl,km,mn,mz⟩:=k;have ĉ:=hk.mz;have Ĕ:=hk.ml;have Ň:=hk.ll;have Ă:=hk.me;simp only at ĉ Ĕ Ň Ă
 have Đ: ∀m:Me,∃b,m∈km->ar cfg 40 [ι m.rn m.rz (aN m.c.1)] []=J (ζ b, [])/\(b=true->m.c.1.length<=30/\ ∀r∈m.c.1,r.2.length<=1000):=fun m=>by
  by_cases h:m∈km
  ·obtain ⟨b,h1,h2⟩:=Rq m.rn m.rz m.c.1 (Ă m h).rz (Ă m h).rl;exact ⟨b,fun _=>⟨h1,h2⟩⟩
  ·exact ⟨U,fun h'=>absurd h' h⟩
 obtain ⟨fb,Ġ⟩:=Classical.axiomOfChoice Đ;obtain ⟨gb,Ĩ⟩: ∃gb:Me->Bool,gb=fun m=>fb m&&decide (m.c.2.nodes.length<=12):=⟨_,rfl⟩
 refine ⟨km.all gb&&(decide (Ê km<=14)&&decide (Ê kl<=10)),aa ad9 aaV ?_,fun h=>by
  simp only [Bool.and_eq_true,List.all_eq_true,decide_eq_true_eq,Ĩ] at h;exact ⟨h.2.1,h.2.2,fun m hm=>((Ġ m hm).2 (h.1 m hm).1).1,fun m hm=>((Ġ m hm).2 (h.1 m hm).1).2,fun m hm=>(h.1 m hm).2⟩⟩
 have hw: ∀m∈km,ar cfg 40 [ι m.rn m.rz (aN m.c.1)] []=J (ζ (fb m), []):=fun m hm=>(Ġ m hm).1;have hp:=bE km;have hE:=sG cV km;have ā:=bW cV km;have Ń: ∀m∈km,m.c.2.nodes.length<=maxLen:=fun m hm=>(Ă m hm).nl;clear Ġ Đ Ă;unfold maxLen at*
 unfold ja wV;simp only;generalize km.map cV=KM at*
 simp (maxSteps:=9^9) (disch:=omega) [-B,-C,-A,-F,-G,om,aaW,ab,ā,hp]
 refine Wp.az (fun (i:Nat)=>Ê km-i) (fun i=> [H,J (ψ 0 0),H,J (P Q i),H,H,H]) (fun _=> [π 31 [P Q ku,θ kl,ι mn mz KM]])
  (fun i=>km.all gb=(km.drop i).all gb/\i<=Ê km) ?_ 0 ⟨by simp,by omega⟩ (by simp) (by simp)
 rintro i ⟨hi,Č⟩;rw [hi];clear hi;by_cases h1:i<Ê km
 ·have hg:=hE i h1;obtain rfl:=ĉ (ne_of_lt h1);have ĝ:=hw _ (W h1);have hn1:=Ń _ (W h1);have ē:gb km[i]=(fb km[i]&&decide (km[i].c.2.nodes.length<=12)):=by rw [Ĩ]
  rw [L h1,ο,ē];clear hE hw Ń ē Ĩ;generalize km[i]=m at*
  unfold cV at hg;have p1:=aS m.c.1;have p2:=aM m.c.2.nodes;have ĩ:=bW dF m.c.2.nodes;generalize m.c.2.nodes.map dF=NN at*
  generalize aN m.c.1=RR at*
  generalize hq:(km.drop (i+1)).all gb=q at*
  cases hb:fb m with
  | false=>rw [hb] at ĝ;simp (maxSteps:=9^9) (disch:=omega) [-B,-C,-A,-F,-G,om,h1,hg,ā,ab,ĝ,hp,ĩ,p1,p2]
  | true=>
   rw [hb] at ĝ;by_cases h2:m.c.2.nodes.length<=12
   ·simp (maxSteps:=9^9) (disch:=omega) [-B,-C,-A,-F,-G,om,h1,hg,ā,ab,ĝ,hp,ĩ,h2,p1,p2];exact ⟨i+1,⟨hq.symm,by omega⟩,by omega,by simp⟩
   ·simp (maxSteps:=9^9) (disch:=omega) [-B,-C,-A,-F,-G,om,h1,hg,ā,ab,ĝ,hp,ĩ,h2,p1,p2]
 ·rw [Y (by omega),ρ];by_cases h3:Ê km<=14
  ·by_cases h4:Ê kl<=10
   ·simp (maxSteps:=9^9) (disch:=omega) [-B,-C,-A,-F,-G,om,h1,ā,ab,hp,h3,h4]
   ·simp (maxSteps:=9^9) (disch:=omega) [-B,-C,-A,-F,-G,om,h1,ā,ab,hp,h3,h4]
  ·simp (maxSteps:=9^9) (disch:=omega) [-B,-C,-A,-F,-G,om,h1,ā,ab,hp,h3]
theorem RA (c:Ct) (k:Kp) (hk:k.ok) (hi: ∀m∈k.b8,m.Tl) (h:db ag k.cs≠0):ar cfg 16 [ja k,br c] []=
  J (.aK [Iw,ι (J U) 0 [],P Q (db ag k.cs)], []):=by
 refine aa Wf OJ ?_;have w1:=pY k hk.mz hk.ml hi;have h2:(db ag k.cs !=0)=true:=by simpa using h
 have pk:=bE k.b8;unfold br dm ja wV Iw at*
 generalize db ag k.cs=e at*
 generalize k.b8.map cV=KM at*
 generalize au c.ad=L1 at*
 generalize c.av.map dc=L2 at*
 generalize c.ai.map bw=L3 at*
 simp (maxSteps:=9^9) (disch:=omega) [-B,-C,-A,-F,-G,om,RB,w1,h,h2,ab,pk]
theorem Iy {a b:Ct} (h:a.PO b) (unit:Int) (lang:ae) (old:ξ Mm):bY I aB a unit lang old=bY I aB b unit lang old/\ju I aB a unit lang old=ju I aB b unit lang old:=by unfold bY ju q9 Bv H9;rw [h.aid,h.eV];simp only [h.reads,and_self]
theorem OK {l:ξ (Cell×ae)} (h: ∀r∈l,r.2.length<=1000):Bd l:=fun r hr=>by
 have h1:=h r hr;refine ⟨fun _=>by omega,fun _=>⟨by omega,fun p hp=> ?_⟩,fun _=>h1⟩;have h2:=(eY _ p hp).2;have h3:=γ (xs:=r.2);omega
theorem Iz {k:Kp} (hi:k.Af) (hf:Ry k):k.ok:=⟨hi.mz,by have:=hf.ml;omega,fun m hm=>⟨(hi.me m hm).rz,(hi.me m hm).nz,by have:=hf.rl m hm;omega,by have:=hf.nl m hm;omega⟩⟩
theorem J1 {k:Kp} (hi:k.Af) (hf:Ry k): ∀m∈(Ac k).b8,m.Tl:=fun m hm=>by
 simp only [Ac,υ] at hm;obtain ⟨x,hx,rfl⟩:=hm;exact RC ((Iz hi hf).me x hx) (OK (hf.rb x hx))
theorem OL (k:Kp) (hi:k.Af) (hf:Ry k) (c:Ct) (hc:c.ok) (ň:qM c=U): ∃(p q:Kp) (l:ξ Int) (nl:χ Bool) (z:Nat) (e:Int),p.ok/\q.ok/\p.unit=q.unit/\p.lang=q.lang/\p.cs=q.cs/\(l≠ []->z=1)/\Ê l<1000000/\
  ar cfg 16 [ja (Ac k),br (nq c)] []=J (.aK [ja p,ι nl z (fa l),P Q e], [])/\ar cfg 18 [ja k,br c] []=J (.aK [ja q,ι nl z (fa l),P Q e], []):=by
 have ą:=Iz hi hf;have Ī:=J1 hi hf;have k0:(⟨0, [], [],J U,0⟩:Kp).ok:=⟨fun h=>absurd rfl h,by simp,fun m hm=>by cases hm⟩;by_cases h0:db ag k.cs=0
 case neg=>
  have w1:=RA (nq c) (Ac k) (zz ą) Ī (by rw [sE];exact h0);rw [sE] at w1;exact ⟨⟨0, [], [],J U,0⟩,⟨0, [], [],J U,0⟩, [],J U,0,_,k0,k0,rfl,rfl,rfl,fun h=>absurd rfl h,by simp,w1,OD c k ą hf.rb h0⟩
 by_cases hE:aW (nq c) k.unit k.lang=0
 case neg=>
  have ī:aW c k.unit k.lang≠0:=by rw [<-(jV c).comp];exact hE
  have w1:=RE (nq c) (vj hc) (Ac k) (zz ą) Ī (by rw [sE];exact h0) hE;have w2:=OF c hc k ą hf.rb h0 ī;rw [<-(jV c).comp] at w2;exact ⟨⟨0, [], [],J U,0⟩,⟨0, [], [],J U,0⟩, [],J U,0,_,k0,k0,rfl,rfl,rfl,fun h=>absurd rfl h,by simp,w1,w2⟩
 have ī:aW c k.unit k.lang=0:=by rw [<-(jV c).comp];exact hE
 have w1:=Dy (nq c) (vj hc) (Ac k) (zz ą) Ī (by rw [sE];exact h0) hE;obtain ⟨q,w2,q1,q2,q3,q4⟩:=OH c hc k ą hf.rb h0 ī;obtain ⟨s1,s2⟩:=Iy (jV c) k.unit k.lang k.cs;rw [sE] at w1;rw [<-s2] at w2
 obtain ⟨hM,Ŋ⟩:=Gj hc ň (root:=k.unit) (lang:=k.lang) (old:=k.cs) hE (fun m hm=>by
  obtain ⟨x,hx,rfl⟩:=List.mem_map.1 hm;exact ⟨(ą.me x hx).rl,(ą.me x hx).nl,OK (hf.rb x hx)⟩)
 have w1:ar cfg 16 [ja (Ac k),br (nq c)] []=J (.aK [GP k.unit k.lang (bY I aB (nq c) k.unit k.lang k.cs),ι H 1 (fa (ju I aB (nq c) k.unit k.lang k.cs)),P Q 0], []):=w1;rw [Ix] at w1;refine ⟨_,q,_,_,_,_,vn Ŋ hM,q1,q2.symm,q3.symm,by rw [vo,q4,s1],fun _=>rfl,?_,w1,w2⟩;unfold ju;rw [R];have a1:=Z (fun s=>(q9 I aB (nq c) k.unit k.lang k.cs s).2) (fp I (nq c) k.unit k.lang);have a2:=J2 (nq c) k.unit k.lang;have a3:=(vj hc).sl;omega
theorem Gp (k:Kp) (hk:k.Af) (c:Ct) (hi:c.Af):ar cfg 4 [ja k,br c] []=J (ζ U, []):=by
 refine aa fn4 aea ?_;have a:=Tk;obtain ⟨b,w0,hb⟩:=Rz k hk;have w1:=JV c hi;have p1:=OM k;have p2:(br c).plain=true:=by simp [br,dm,AV.plain,ak]
 have kx: ∀k:Kp,ja k= .agg [P Q k.unit,θ k.lang,ι k.mn k.mz (k.b8.map cV)]:=fun _=>rfl;by_cases Ğ:b=U/\qM c=U
 case neg=>
  clear hb;rw [kx] at*
  generalize k.b8.map cV=KM at*
  obtain ⟨L1,L2,L3,y0⟩:=Wd c;simp only [y0] at*
  cases b with
  | false=>simp (maxSteps:=9^9) (disch:=omega) [-B,-C,-A,-F,-G,om,ir4,a,w0,p1,p2]
  | true=>
   have h2:qM c=false:=by simpa using Ğ
   rw [h2] at w1;simp (maxSteps:=9^9) (disch:=omega) [-B,-C,-A,-F,-G,om,ir4,a,w0,w1,p1,p2]
 obtain ⟨rfl,h2⟩:=Ğ;rw [h2] at w1;have hf:=hb rfl;have ą:=Iz hk hf;have hc:=Ol hi h2;have c1:=Gn k ą;have c2:=Gc c hc;obtain ⟨p,q,l,nl,z,e,hp,hq,e1,e2,e3,hz,hl,w2,w3⟩:=OL k hk hf c hc h2;have w4:=pY (Ac k) (fun _=>rfl) (zz ą).ml (J1 hk hf);rw [sE] at w4;have w5:=qC k ą (hf.rb);have w6:=zx p q hp hq;rw [e1,e2,e3] at w6;simp only [and_self,decide_true] at w6;have w7:=Dz nl nl z z l l hz hz hl hl;rw [decide_eq_true rfl] at w7;have pi:=gC l;have pp:=bE p.b8;have pq:=bE q.b8;have pc:=bE (Ac k).b8;have p4:(br (nq c)).plain=true:=by simp [br,dm,AV.plain,ak]
 generalize db ag k.cs=ch at*
 clear hb hf ą hp hq e3;simp only [kx] at*
 rw [e1,e2] at w2 w6;generalize k.b8.map cV=KM at*
 generalize p.b8.map cV=PM at*
 generalize q.b8.map cV=QM at*
 generalize (Ac k).b8.map cV=CM at*
 obtain ⟨L1,L2,L3,y0⟩:=Wd c;obtain ⟨M1,M2,M3,y1⟩:=Wd (nq c);simp only [y0,y1] at*
 simp (maxSteps:=9^9) (disch:=omega) [-B,-C,-A,-F,-G,om,ir4,a,w0,w1,c1,c2,w2,w3,w4,w5,w6,w7,p1,p2,p4,pi,pp,pq,pc,ab]
theorem IB {xs:ξ AV} (h:gl Tryz.prog [31,26] xs):ar cfg 4 xs []=J (ζ U, []):=by obtain ⟨k,r,rfl,hk,h⟩:=RF h;obtain ⟨c,r,e,hc,h9⟩:=IX h;subst e;obtain rfl:r= []:=h9;exact Gp k hk c hc
