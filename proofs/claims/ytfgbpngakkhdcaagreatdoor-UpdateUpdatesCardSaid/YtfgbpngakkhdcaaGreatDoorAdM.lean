/- Catalogs as the machine's values. -/
import Derived.Test.YtfgbpngakkhdcaaGreatDoorIrs
import Derived.Test.YtfgbpngakkhdcaaGreatDoorCatM
import Derived.Test.YtfgbpngakkhdcaaGreatDoorAmFrame
open Bool renaming false->Z,true->Γ,false_eq_true->υ,not_eq_true'->ο
open Go.Am.AV renaming aC->φ,agg->Ι,ah->ψ,bool->Ε,int->Y,ptr->ζ,str->ι
open Go.Am.af renaming sl->Η,var->η
open Go.IntKind renaming i64->V
open Go.Lib renaming compareBytes->W
open List renaming length->Ê,drop_eq_getElem_cons->T,drop_eq_nil_of_le->U,ext_getElem?->ω,getD_eq_getElem?_getD->F,getElem?_eq_getElem->π,getElem?_set_ne->τ,length_cons->Δ,map_append->Ζ,map_cons->δ,map_nil->Α,map_replicate->G,map_set->H,mem_cons_self->χ,nodup_cons->σ,pairwise_map->Β,set_append_left->γ,set_comm->Κ,set_set->Λ,take_left'->ξ
open Nat renaming le_refl->μ
open Option renaming none->K,some->N,map_some->ρ
open Prod renaming fst->κ,snd->Θ
open _root_ renaming Bool->Ν,List->Q,Nat->θ,Option->ν,absurd->Μ,decide_eq_false_iff_not->ε,getElem?_neg->J,getElem?_pos->I,if_neg->O,if_pos->P
set_option linter.all false
namespace Go.Proofs.YtfgbpngakkhdcaaGreatDoor
open Go.Am
set_option maxRecDepth 10000
set_option maxHeartbeats 4000000
def au (l:Q ae):Q AV:=l.map ι
def dc (l:Lb):AV:= Ι [Y V l.el,ι l.lang,ι l.text,Y V l.ix]
def dQ (f:Fc):AV:= Ι [Y V f.el,ι f.lang,ι f.text]
def bw (s:Sh):AV:= Ι [Y V s.unit,Y V s.par,Y V s.level,ι s.mark,ι s.title,ψ s.fn s.fz (s.facts.map dQ)]
def dm (c:Ct):Q AV:= [ψ c.ln c.lz (au c.ad),ψ c.bn c.bz (c.av.map dc),ψ c.sn c.sz (c.ai.map bw)]
def br (c:Ct):AV:= Ι (dm c)
structure Sh.ok (s:Sh):Prop where
 fz:s.facts≠ []->s.fz=3
 fl:s.facts.length<1000000
structure Ct.ok (c:Ct):Prop where
 lz:c.ad≠ []->c.lz=1
 bz:c.av≠ []->c.bz=4
 sz:c.ai≠ []->c.sz=6
 ll:c.ad.length<1000000
 bl:c.av.length<1000000
 sl:c.ai.length<1000000
 sh: ∀s∈c.ai,s.ok
@[simp] theorem xu: ∀(l:Q ae),ak (au l)=Γ
 | []=>rfl
 | x::r=>by simp [au,ak,AV.plain];exact xu r
@[simp] theorem mw: ∀(l:Q Lb),ak (l.map dc)=Γ
 | []=>rfl
 | x::r=>by simp [ak,dc,AV.plain,mw r]
@[simp] theorem iF: ∀(l:Q Fc),ak (l.map dQ)=Γ
 | []=>rfl
 | x::r=>by simp [ak,dQ,AV.plain,iF r]
@[simp] theorem c6: ∀(l:Q Sh),ak (l.map bw)=Γ
 | []=>rfl
 | x::r=>by simp [ak,bw,AV.plain,c6 r]
theorem my (L:Q ae) {i:θ} (h:i<Ê L):(au L)[i]?=N (ι (L.getD i [])):=by simp [au,h,F]
@[simp] theorem ke (L:List ae):(au L).length=Ê L:=by simp [au]
theorem Mb (a b:Q ae):au (a++b)=au a++au b:=by simp [au]
theorem get_map {α:Type} (f:α->AV) (l:Q α) {i:θ} (h:i<Ê l):(l.map f)[i]?=N (f l[i]):=by simp [h]
theorem sG {α:Type} (f:α->AV) (l:Q α): ∀k (h:k<Ê l),(l.map f)[k]?=N (f l[k]):=fun _ h=>get_map f l h
theorem bW {α β:Type} (f:α->β) (l:Q α):(l.map f).length=Ê l:=by simp
theorem PB (l:Q (Fc)): ∀k (h:k<Ê l),(l.map dQ)[k]?=N (Ι [Y V l[k].el,ι l[k].lang,ι l[k].text]):=fun k h=>get_map _ _ h
theorem gE0 (l:Q (Lb)): ∀k (h:k<Ê l),(l.map dc)[k]?=N (Ι [Y V l[k].el,ι l[k].lang,ι l[k].text,Y V l[k].ix]):=fun k h=>get_map _ _ h
theorem ne_of_lt {α:Type} {l:Q α} {i:θ} (h:i<Ê l):l≠ []:=fun h0=>by rw [h0] at h;simp at h
theorem DL (L:Q ae) {i:θ} (h:i<Ê L):L.drop i=L.getD i []::L.drop (i+1):=by rw [T h];simp [F,h]
def rq (w:ae):Q ae->θ->Int
 | [],_=> -1
 | x::r,i=>if w==x then (i:Int) else rq w r (i+1)
theorem mA (nl:ν Ν) (z:θ) (L:Q ae) (hz:L≠ []->z=1) (hL:Ê L<1000000) (w:ae):ar cfg 89 [ψ nl z (au L),ι w] []=N (Y V (rq w L 0), []):=by
 refine aa ade X1 ?_;simp (maxSteps:=9^9) (disch:=omega) [-G,-H,-F,-I,-J,om,X2,ke];refine Wp.az (fun (i:θ)=>Ê L-i) (fun i=> [N (ψ nl z (au L)),N (ι w),K,K,N (Y V (Ê L)),N (Y V i),K,K]) (fun _=> []) (fun i=>rq w L 0=rq w (L.drop i) i/\i<=Ê L) ?_ 0 ⟨by simp,by omega⟩ (by simp) rfl;rintro i ⟨hi,hl⟩;rw [hi];by_cases h1:i<Ê L
 ·have hg:=my L h1;obtain rfl:=hz (ne_of_lt h1);rw [DL L h1] at hi⊢;simp only [rq] at hi⊢;generalize L.getD i []=x at*
  cases he:w==x with
  | true=>simp (maxSteps:=9^9) (disch:=omega) [-G,-H,-F,-I,-J,om,h1,hg,he]
  | false=>rw [he] at hi;simp (maxSteps:=9^9) (disch:=omega) [-G,-H,-F,-I,-J,om,h1,hg,he];exact ⟨i+1,⟨by simp,by omega⟩,by omega,by simp⟩
 ·rw [U (by omega)];simp (maxSteps:=9^9) (disch:=omega) [-G,-H,-F,-I,-J,om,h1,rq]
theorem DM (w:ae): ∀(L:Q ae) (i:θ),decide (0<=rq w L i)=cD L w
 | [],i=>rfl
 | x::r,i=>by
  simp only [rq,cD,List.any_cons];have ih:=DM w r (i+1);by_cases he:(w==x)=Γ
  ·simp only [he,if_true,Bool.true_or];simp
  ·rw [Bool.not_eq_true] at he;simp only [he,Bool.false_or,υ,if_false];exact ih
theorem p8 (nl:ν Ν) (z:θ) (L:Q ae) (hz:L≠ []->z=1) (hL:Ê L<1000000) (w:ae):ar cfg 47 [ψ nl z (au L),ι w] []=N (Ε (cD L w), []):=by
 refine aa adf X3 ?_;have h1:=mA nl z L hz hL w;rw [<-DM w L 0];by_cases h4:0<=rq w L 0
 ·simp (maxSteps:=9^9) (disch:=omega) [-G,-H,-F,-I,-J,om,TE,h1,h4]
 ·simp (maxSteps:=9^9) (disch:=omega) [-G,-H,-F,-I,-J,om,TE,h1,h4]
theorem GQ (w:ae): ∀(L:Q ae) (i:θ),rq w L i=match gP L w with | some k=>((i+k:θ):Int) | none=> -1
 | [],i=>rfl
 | x::r,i=>by
  unfold rq gP;by_cases h:x=w
  ·subst h;rw [P rfl];simp
  ·have hb:(w==x)=false:=by simpa using fun h'=>h h'.symm
   rw [O h,hb];simp only [υ,if_false];rw [GQ w r (i+1)];cases gP r w with
   | none=>rfl
   | some k=>simp only [ρ];congr 1;omega
theorem IQ (w:ae) (L:Q ae):rq w L 0=rk L w:=by
 rw [GQ];unfold rk;cases gP L w with
 | none=>rfl
 | some k=>simp
def dq (l:Q Int):Q AV:=l.map (AV.int V)
@[simp] theorem Ad (l:List Int):(dq l).length=Ê l:=by simp [dq]
def DN (w:Int):Q Int->θ->Int
 | [],_=> -1
 | x::r,i=>if w=x then (i:Int) else DN w r (i+1)
theorem Kd (nl:ν Ν) (z:θ) (L:Q Int) (hz:L≠ []->z=1) (hL:Ê L<1000000) (w:Int):ar cfg 64 [ψ nl z (dq L),Y V w] []=N (Y V (DN w L 0), []):=by
 refine aa adg X4 ?_;simp (maxSteps:=9^9) (disch:=omega) [-G,-H,-F,-I,-J,om,X5];refine Wp.az (fun (i:θ)=>Ê L-i) (fun i=> [N (ψ nl z (dq L)),N (Y V w),K,K,N (Y V (Ê L)),N (Y V i),K,K]) (fun _=> []) (fun i=>DN w L 0=DN w (L.drop i) i/\i<=Ê L) ?_ 0 ⟨by simp,by omega⟩ (by simp) rfl;rintro i ⟨hi,hl⟩;rw [hi];by_cases h1:i<Ê L
 ·have hg:(dq L)[i]?=N (Y V L[i]):=by simp [dq,h1]
  obtain rfl:=hz (ne_of_lt h1);rw [T h1] at hi⊢;simp only [DN] at hi⊢;generalize L[i]=x at*
  by_cases he:w=x
  ·simp (maxSteps:=9^9) (disch:=omega) [-G,-H,-F,-I,-J,om,h1,hg,he]
  ·rw [O he] at hi;simp (maxSteps:=9^9) (disch:=omega) [-G,-H,-F,-I,-J,om,h1,hg,he];exact ⟨i+1,⟨by simp,by omega⟩,by omega,by simp⟩
 ·rw [U (by omega)];simp (maxSteps:=9^9) (disch:=omega) [-G,-H,-F,-I,-J,om,h1,DN]
theorem Mc (w:Int): ∀(L:Q Int) (i:θ),DN w L i=match rA L w with | some k=>((i+k:θ):Int) | none=> -1
 | [],i=>rfl
 | x::r,i=>by
  unfold DN rA;by_cases h:x=w
  ·subst h;rw [P rfl,P rfl];simp
  ·rw [O h,O (fun h'=>h h'.symm)];rw [Mc w r (i+1)];cases rA r w with
   | none=>rfl
   | some k=>simp only [ρ];congr 1;omega
def kf (a b:Int):Int:=if a<b then -1 else if a=b then 0 else 1
theorem IS (a:Int):ar cfg 107 [Y V a] []=N (Ε Z, []):=by refine aa X6 TF ?_;simp (maxSteps:=9^9) (disch:=omega) [-G,-H,-F,-I,-J,om,Sa]
theorem wW (a b:Int):ar cfg 60 [Y V a,Y V b] []=N (Y V (kf a b), []):=by
 refine aa adh X7 ?_;have h1:=IS a;have h2:=IS b;unfold kf;by_cases h3:a<b
 ·simp (maxSteps:=9^9) (disch:=omega) [-G,-H,-F,-I,-J,om,PQ,h1,h2,h3]
 ·by_cases h4:a=b
  ·subst h4;simp (maxSteps:=9^9) (disch:=omega) [-G,-H,-F,-I,-J,om,PQ,h1]
  ·have h5:b<a:=by omega
   simp (maxSteps:=9^9) (disch:=omega) [-G,-H,-F,-I,-J,om,PQ,h1,h2,h3,h4,h5]
theorem IT (a:ae):ar cfg 184 [ι a] []=N (Ε Z, []):=by refine aa X8 TG ?_;simp (maxSteps:=9^9) (disch:=omega) [-G,-H,-F,-I,-J,om,Sb]
theorem IU (a b:ae):ar cfg 140 [ι a,ι b] []=N (Y V (W a b), []):=by
 refine aa X9 TH ?_;have h1:=IT a;have h2:=IT b;obtain ⟨k1,k2,k3⟩:=mB a b;obtain ⟨l1,l2,l3⟩:=mB b a;have sw:=IV a b;have k4:=Ya a b;rw [sw] at l1;generalize W a b=c at*
 rcases k3 with rfl | rfl | rfl
 ·simp (maxSteps:=9^9) (disch:=omega) [-G,-H,-F,-I,-J,om,IW,h1,h2,k1]
 ·simp (maxSteps:=9^9) (disch:=omega) [-G,-H,-F,-I,-J,om,IW,h1,h2,k1,l1,k4]
 ·simp (maxSteps:=9^9) (disch:=omega) [-G,-H,-F,-I,-J,om,IW,h1,h2,k1,l1,k4]
def PC:Q Int->Int
 | []=>0
 | a::r=>if a=0 then PC r else a
theorem Yb (nl:ν Ν) (L:Q Int) (hL:Ê L<1000000):ar cfg 59 [ψ nl 1 (dq L)] []=N (Y V (PC L), []):=by
 refine aa adi Yc ?_;simp (maxSteps:=9^9) (disch:=omega) [-G,-H,-F,-I,-J,om,Yd];refine Wp.az (fun (i:θ)=>Ê L-i) (fun i=> [K,K,N (Y V 0),K,N (ψ nl 1 (dq L)),N (Y V (Ê L)),N (Y V i),K,K]) (fun _=> []) (fun i=>PC L=PC (L.drop i)/\i<=Ê L) ?_ 0 ⟨by simp,by omega⟩ (by simp) rfl;rintro i ⟨hi,hl⟩;rw [hi];by_cases h1:i<Ê L
 ·have hg:(dq L)[i]?=N (Y V L[i]):=by simp [dq,h1]
  rw [T h1] at hi⊢;simp only [PC] at hi⊢;generalize L[i]=x at*
  by_cases he:x=0
  ·rw [P he] at hi;simp (maxSteps:=9^9) (disch:=omega) [-G,-H,-F,-I,-J,om,h1,hg,he];exact ⟨i+1,⟨by simp,by omega⟩,by omega,by simp⟩
  ·simp (maxSteps:=9^9) (disch:=omega) [-G,-H,-F,-I,-J,om,h1,hg,he]
 ·rw [U (by omega)];simp (maxSteps:=9^9) (disch:=omega) [-G,-H,-F,-I,-J,om,h1,PC]
theorem GR (nl:ν Ν) (a b:Int):ar cfg 59 [ψ nl 1 [Y V a,Y V b]] []=N (Y V (if a=0 then b else a), []):=by
 have h:=Yb nl [a,b] (by simp)
 have e:PC [a,b]=if a=0 then b else a:=by
  unfold PC PC PC;split
  ·split
   ·rename_i h;rw [h]
   ·rfl
  ·rfl
 rw [e] at h;exact h
theorem Ae (a b:Int) (s t:ae):(0<=(if kf a b=0 then W s t else kf a b))↔mC a s b t=false:=by
 unfold mC kf;rw [ε];by_cases h1:a<b
 ·simp [h1]
 ·rw [O h1];by_cases h2:a=b
  ·rw [P h2];simp [h1,h2]
  ·simp [h1,h2]
theorem TJ (s:ae):ar cfg 139 [ι s] []=N (Ε (Cc s), []):=by
 refine aa Ye TK ?_;unfold Cc;by_cases h:Ê s=2
 ·match s,h with
  | [a,b],_=>
   simp only [List.getD_cons_zero,List.getD_cons_succ]
   by_cases h1:97<=a.toNat <;> by_cases h2:a.toNat<=122 <;> by_cases h3:97<=b.toNat <;> by_cases h4:b.toNat<=122 <;>
    first
    | omega
    | simp (maxSteps:=9^9) (disch:=omega) [-G,-H,-F,-I,-J,om,Md,h1,h2,h3,h4]
 ·have h2:((Ê s:Int)==2)=false:=by simp;omega
  simp (maxSteps:=9^9) (disch:=omega) [-G,-H,-F,-I,-J,om,Md,h,h2]
theorem mD {α:Type} (L:Q α) {i:θ} (h:i<Ê L):L.take (i+1)=L.take i++ [L[i]]:=by rw [List.take_succ_eq_append_getElem h]
theorem Mf (c:Ct) (hc:c.ok):ar cfg 86 [br c] []=N (Y V (lQ c.ad), []):=by
 refine aa adj Yf ?_;have hl:=hc.ll;have hz:=hc.lz;unfold lQ br dm;generalize c.av.map dc=A2 at*
 generalize c.ai.map bw=A3 at*
 generalize c.ad=L at*
 generalize c.lz=z at*
 by_cases h0:Ê L<1
 ·simp (maxSteps:=9^9) (disch:=omega) [-G,-H,-F,-I,-J,om,PR,h0]
 by_cases h8:8<Ê L
 ·simp (maxSteps:=9^9) (disch:=omega) [-G,-H,-F,-I,-J,om,PR,h0,h8]
 obtain rfl:z=1:=hz (by intro h;rw [h] at h0;simp at h0);have ĕ:(if (Ê L)<1\/8<Ê L then 2 else ej [] L)=ej [] L:=O (by omega);rw [ĕ];simp (maxSteps:=9^9) (disch:=omega) [-G,-H,-F,-I,-J,om,PR,h0,h8];refine Wp.az (fun (i:θ)=>Ê L-i) (fun i=> [K,N (ζ 0 0),K,K,K,K,N (ψ c.ln 1 (au L)),N (Y V (Ê L)),N (Y V i),K,K,K,K,K]) (fun _=> [η 26 [ψ c.ln 1 (au L),ψ c.bn c.bz A2,ψ c.sn c.sz A3]]) (fun i=>ej [] L=ej (L.take i) (L.drop i)/\i<=Ê L) ?_ 0 ⟨by simp,by omega⟩ (by simp) rfl;rintro i ⟨hi,Ĉ⟩;rw [hi];by_cases h1:i<Ê L
 ·have hg:(au L)[i]?=N (ι L[i]):=by simp [au,h1]
  have Ē:(au L).take i=au (L.take i):=by simp [au]
  have ht:=TJ L[i];have hh:=p8 c.ln 1 (L.take i) (fun _=>rfl) (by simp;omega) L[i];rw [T h1] at hi⊢;simp only [ej] at hi⊢;rw [<-mD L h1] at hi⊢;generalize L[i]=x at*
  cases he:Cc x with
  | false=>rw [he] at ht;simp (maxSteps:=9^9) (disch:=omega) [-G,-H,-F,-I,-J,om,h1,hg,ht]
  | true=>
   rw [he] at hi ht;cases hb:cD (L.take i) x with
   | true=>rw [hb] at hh;simp (maxSteps:=9^9) (disch:=omega) [-G,-H,-F,-I,-J,om,h1,hg,ht,Ē,hh]
   | false=>rw [hb] at hi hh;simp (maxSteps:=9^9) (disch:=omega) [-G,-H,-F,-I,-J,om,h1,hg,ht,Ē,hh];exact ⟨i+1,⟨by simpa using hi,by omega⟩,by omega,by simp⟩
 ·rw [U (by omega)];simp (maxSteps:=9^9) (disch:=omega) [-G,-H,-F,-I,-J,om,h1,ej]
theorem PS (c:Ct) (hc:c.ok):ar cfg 87 [br c] []=N (Y V (qN c.ad c.av), []):=by
 refine aa adk Yg ?_;have hl:=hc.ll;have hz:=hc.lz;have Ė:=hc.bl;have Ć:=hc.bz;unfold qN br dm;generalize c.ai.map bw=A3 at*
 generalize c.ad=L at*
 generalize c.lz=z at*
 generalize c.av=B at*
 generalize c.bz=bz at*
 have ć:=bW dc B;have hE:=gE0 B;have ċ:ak (B.map dc)=true:=mw B;generalize B.map dc=E at*
 by_cases h0:256<Ê B
 ·simp (maxSteps:=9^9) (disch:=omega) [-G,-H,-F,-I,-J,om,TL,h0,ć]
 rw [O h0];simp (maxSteps:=9^9) (disch:=omega) [-G,-H,-F,-I,-J,om,TL,h0,ć];refine Wp.az (fun (i:θ)=>Ê B-i) (fun i=> [K,N (ζ 0 0),K,K,K,K,K,N (ψ c.bn bz E),N (Y V (Ê B)),N (Y V i),K,K,K,K,K,K,K,K,K,K,K,K,K,K]) (fun _=> [η 26 [ψ c.ln z (au L),ψ c.bn bz E,ψ c.sn c.sz A3]]) (fun i=>e7 L K B=e7 L (if i=0 then K else B[i-1]?) (B.drop i)/\i<=Ê B) ?_ 0 ⟨by simp,by omega⟩ (by simp) rfl;rintro i ⟨hi,Ĉ⟩;rw [hi];clear hi;by_cases h1:i<Ê B
 ·have hg:=hE i h1;obtain rfl:bz=4:=Ć (ne_of_lt h1);have hh:=p8 c.ln z L hz hl B[i].lang;rw [T h1];simp only [e7];have fin: ∃a,(e7 L (N B[i]) (B.drop (i+1))=e7 L (if a=0 then K else B[a-1]?) (B.drop a)/\a<=Ê B)/\Ê B-a<Ê B-i/\(i:Int)+1=(a:Int):=⟨i+1,⟨by simp [h1],by omega⟩,by omega,by simp⟩
  -- the one before
  have hp:i≠0-> ∃p,B[i-1]?=N p/\E[i-1]?=N (Ι [Y V p.el,ι p.lang,ι p.text,Y V p.ix]):=fun h=>⟨B[i-1],π (by omega),hE _ (by omega)⟩;clear hE hz Ć;generalize e7 L (N B[i]) (B.drop (i+1))=R at*
  generalize B[i]=x at*
  have ē: ∀o,ux L o x=if x.el<1\/64<x.el\/x.ix<0\/3<x.ix then 2 else if cD L x.lang=Z then 7 else if x.text.length<1\/64<x.text.length then 4 else
   match o with
   | none=>0
   | some p=>if mC p.el p.lang x.el x.lang=Z then 5 else if p.el=x.el/\p.ix≠x.ix then 10 else 0:=fun o=>rfl
  by_cases hi0:i=0
  ·subst hi0;rw [P rfl];clear hp ē;generalize Ā:ux L K x=lv at*
   simp (maxSteps:=9^9) (disch:=omega) [-G,-H,-F,-I,-J,om,h1,hg,ab,hh];unfold ux at Ā;by_cases e1:((x.el<1\/64<x.el)\/x.ix<0)\/3<x.ix
   ·rw [P e1];rw [P (by omega)] at Ā;subst Ā;rfl
   rw [O e1];rw [O (by omega)] at Ā;cases e2:cD L x.lang with
   | false=>rw [O (by simp)];rw [P e2] at Ā;subst Ā;rfl
   | true=>
    rw [P rfl];rw [O (by simp [e2])] at Ā;by_cases e3:(x.text.length:Int)<1\/64<(x.text.length:Int)
    ·rw [P e3];rw [P (by omega)] at Ā;subst Ā;rfl
    rw [O e3];rw [O (by omega)] at Ā;subst Ā;rw [P rfl];exact fin
  ·obtain ⟨p,q1,q2⟩:=hp hi0;rw [O hi0,q1];have c1:=wW p.el x.el;have c2:=IU p.lang x.lang;have c3:=GR K (kf p.el x.el) (W p.lang x.lang);have c4:=Ae p.el x.el p.lang x.lang;generalize (if kf p.el x.el=0 then W p.lang x.lang else kf p.el x.el)=rr at*
   generalize kf p.el x.el=r1 at*
   generalize W p.lang x.lang=r2 at*
   have Č:(i:Int)≠0:=by omega
   have č:((i:Int)-1).toNat=i-1:=by omega
   clear hp ē;generalize Ā:ux L (N p) x=lv at*
   simp (maxSteps:=9^9) (disch:=omega) [-G,-H,-F,-I,-J,om,h1,hg,ab,hh,hi0,Č,č,q2,c1,c2,c3];unfold ux at Ā;by_cases e1:((x.el<1\/64<x.el)\/x.ix<0)\/3<x.ix
   ·rw [P e1];rw [P (by omega)] at Ā;subst Ā;rfl
   rw [O e1];rw [O (by omega)] at Ā;cases e2:cD L x.lang with
   | false=>rw [O (by simp)];rw [P e2] at Ā;subst Ā;rfl
   | true=>
    rw [P rfl];rw [O (by simp [e2])] at Ā;by_cases e3:(x.text.length:Int)<1\/64<(x.text.length:Int)
    ·rw [P e3];rw [P (by omega)] at Ā;subst Ā;rfl
    rw [O e3];rw [O (by omega)] at Ā;simp only at Ā;by_cases e4:0<=rr
    ·rw [P e4];rw [P (c4.1 e4)] at Ā;subst Ā;rfl
    rw [O e4];rw [O (fun h=>e4 (c4.2 h))] at Ā;by_cases e5:p.el=x.el/\ ¬ p.ix=x.ix
    ·rw [P e5];rw [P e5] at Ā;subst Ā;rfl
    rw [O e5];rw [O e5] at Ā;subst Ā;rw [P rfl];exact fin
 ·rw [U (by omega)];simp (maxSteps:=9^9) (disch:=omega) [-G,-H,-F,-I,-J,om,h1,e7]
theorem PT (c:Ct) (hc:c.ok) (nl:ν Ν) (bz:θ) (B:Q Fc) (Ć:B≠ []->bz=3) (Ė:Ê B<1000000):ar cfg 141 [br c,ψ nl bz (B.map dQ)] []=N (Y V (k9 c.ad B), []):=by
 refine aa Yh TM ?_;have hl:=hc.ll;have hz:=hc.lz;unfold k9 br dm;generalize c.ai.map bw=A3 at*
 generalize c.av.map dc=A2 at*
 generalize c.ad=L at*
 generalize c.lz=z at*
 have ć:=bW dQ B;have hE:=PB B;have ċ:ak (B.map dQ)=true:=iF B;generalize B.map dQ=E at*
 by_cases h0:32<Ê B
 ·simp (maxSteps:=9^9) (disch:=omega) [-G,-H,-F,-I,-J,om,Mg,h0,ć]
 rw [O h0];simp (maxSteps:=9^9) (disch:=omega) [-G,-H,-F,-I,-J,om,Mg,h0,ć];refine Wp.az (fun (a:θ×ν AV×ν AV×ν AV×ν AV)=>Ê B-a.1) (fun a=> [K,N (ψ nl bz E),N (ζ 0 0),K,K,K,K,N (ψ nl bz E),N (Y V (Ê B)),N (Y V a.1),K,K,K,K,K,K,a.2.1,a.2.2.1,a.2.2.2.1,a.2.2.2.2,K]) (fun _=> [η 26 [ψ c.ln z (au L),ψ c.bn c.bz A2,ψ c.sn c.sz A3]]) (fun a=>e8 L K B=e8 L (if a.1=0 then K else B[a.1-1]?) (B.drop a.1)/\a.1<=Ê B) ?_ (0,K,K,K,K) ⟨by simp,by simp⟩ (by simp) rfl;rintro ⟨i,o1,o2,o3,o4⟩ ⟨hi,Ĉ⟩;simp only at hi Ĉ⊢;rw [hi];clear hi;by_cases h1:i<Ê B
 ·have hg:=hE i h1;obtain rfl:bz=3:=Ć (ne_of_lt h1);have hh:=p8 c.ln z L hz hl B[i].lang;rw [T h1];simp only [e8];have fin: ∃a,(e8 L (N B[i]) (B.drop (i+1))=e8 L (if a=0 then K else B[a-1]?) (B.drop a)/\a<=Ê B)/\Ê B-a<Ê B-i/\(i:Int)+1=(a:Int):=⟨i+1,⟨by simp [h1],by omega⟩,by omega,by simp⟩;have hp:i≠0-> ∃p,B[i-1]?=N p/\E[i-1]?=N (Ι [Y V p.el,ι p.lang,ι p.text]):=fun h=>⟨B[i-1],π (by omega),hE _ (by omega)⟩;clear hE hz Ć;generalize e8 L (N B[i]) (B.drop (i+1))=R at*
  generalize B[i]=x at*
  by_cases hi0:i=0
  ·subst hi0;rw [P rfl];clear hp;generalize Ā:wJ L K x=lv at*
   simp (maxSteps:=9^9) (disch:=omega) [-G,-H,-F,-I,-J,om,h1,hg,ab,hh];unfold wJ at Ā;by_cases e1:x.el<1\/64<x.el
   ·rw [P e1];rw [P e1] at Ā;subst Ā;rfl
   rw [O e1];rw [O e1] at Ā;cases e2:cD L x.lang with
   | false=>rw [O (by simp)];rw [P e2] at Ā;subst Ā;rfl
   | true=>
    rw [P rfl];rw [O (by simp [e2])] at Ā;by_cases e3:(x.text.length:Int)<1\/4096<(x.text.length:Int)
    ·rw [P e3];rw [P (by omega)] at Ā;subst Ā;rfl
    rw [O e3];rw [O (by omega)] at Ā;subst Ā;rw [P rfl];exact fin
  ·obtain ⟨p,q1,q2⟩:=hp hi0;rw [O hi0,q1];have c1:=wW p.el x.el;have c2:=IU p.lang x.lang;have c3:=GR K (kf p.el x.el) (W p.lang x.lang);have c4:=Ae p.el x.el p.lang x.lang;generalize (if kf p.el x.el=0 then W p.lang x.lang else kf p.el x.el)=rr at*
   generalize kf p.el x.el=r1 at*
   generalize W p.lang x.lang=r2 at*
   have Č:(0:Int)<(i:Int):=by omega
   have č:((i:Int)-1).toNat=i-1:=by omega
   clear hp;generalize Ā:wJ L (N p) x=lv at*
   simp (maxSteps:=9^9) (disch:=omega) [-G,-H,-F,-I,-J,om,h1,hg,ab,hh,hi0,Č,č,q2,c1,c2,c3];unfold wJ at Ā;by_cases e1:x.el<1\/64<x.el
   ·rw [P e1];rw [P e1] at Ā;subst Ā;rfl
   rw [O e1];rw [O e1] at Ā;cases e2:cD L x.lang with
   | false=>rw [O (by simp)];rw [P e2] at Ā;subst Ā;rfl
   | true=>
    rw [P rfl];rw [O (by simp [e2])] at Ā;by_cases e3:(x.text.length:Int)<1\/4096<(x.text.length:Int)
    ·rw [P e3];rw [P (by omega)] at Ā;subst Ā;rfl
    rw [O e3];rw [O (by omega)] at Ā;simp only at Ā;by_cases e4:0<=rr
    ·rw [P e4];rw [P (c4.1 e4)] at Ā;subst Ā;rfl
    rw [O e4];rw [O (fun h=>e4 (c4.2 h))] at Ā;subst Ā;rw [P rfl];exact fin
 ·rw [U (by omega)];simp (maxSteps:=9^9) (disch:=omega) [-G,-H,-F,-I,-J,om,h1,e8]
theorem gQ (l:Q Sh) {i:θ} (h:i<Ê l):(l.map bw)[i]?=N (Ι [Y V l[i].unit,Y V l[i].par,Y V l[i].level,ι l[i].mark,ι l[i].title,ψ l[i].fn l[i].fz (l[i].facts.map dQ)]):=get_map _ _ h
def wK (u:Int):Q Sh->θ->Int
 | [],_=> -1
 | s::r,i=>if s.unit=u then (i:Int) else wK u r (i+1)
theorem Mh (u:Int): ∀(l:Q Sh) (i:θ),wK u l i=match aL l u with | some k=>((i+k:θ):Int) | none=> -1
 | [],i=>rfl
 | x::r,i=>by
  unfold wK aL;by_cases h:x.unit=u
  ·rw [P h,P h];simp
  ·rw [O h,O h];rw [Mh u r (i+1)];cases aL r u with
   | none=>rfl
   | some k=>simp only [ρ];congr 1;omega
theorem DO (u:Int) (l:Q Sh):wK u l 0=aJ (aL l u):=by
 rw [Mh];cases aL l u with
 | none=>rfl
 | some k=>simp [aJ]
structure DP (f:FuncId):Prop where
 ex:exts f=K
 ob:wL f=K
 ov:L5 f=K
 mu:kg f=Z
theorem DQ (nl:ν Ν) (z:θ) (l:Q Sh) (hz:l≠ []->z=6) (hl:Ê l<1000000) (f:FuncId) (ė:DP f) (j:θ) (bs:Q af) (u:Int)
  (hf: ∀s:Sh,ar cfg f [bw s,ζ j 0] bs=N (Ε (s.unit==u),bs)) (hj:j<Ê bs) (Ę:shut (Ê bs) bs=Γ):
  ar cfg 90 [ψ nl z (l.map bw),.fn f [] [ζ j 0]] bs=N (Y V (aJ (aL l u)),bs):=by
 refine aa adl Yi ?_;have ę:=bW bw l;have hE:=sG bw l;generalize l.map bw=E at*
 obtain ⟨n1,n2,n3,n4⟩:=ė;simp only [exts,wL,L5,kg] at n1 n2 n3 n4;have hm:=shut_map (μ _) Ę;simp (maxSteps:=9^9) (disch:=omega) [-G,-H,-F,-I,-J,om,Yj,ę];rw [<-DO];refine Wp.az (fun (i:θ)=>Ê l-i) (fun i=> [N (ψ nl z E),N (.fn f [] [ζ j 0]),K,K,N (Y V (Ê l)),N (Y V i),K,K]) (fun _=>bs) (fun i=>wK u l 0=wK u (l.drop i) i/\i<=Ê l) ?_ 0 ⟨by simp,by omega⟩ (by simp) rfl;rintro i ⟨hi,Ĉ⟩;rw [hi];clear hi;by_cases h1:i<Ê l
 ·have hg:=hE i h1;have hs:=hf l[i];obtain rfl:=hz (ne_of_lt h1);rw [T h1];simp only [wK];generalize l[i]=x at*
  unfold bw at hg hs;simp (maxSteps:=9^9) (disch:=omega) [-G,-H,-F,-I,-J,om,h1,hg,hs,n1,n2,n3,n4];exact fun _=>⟨i+1,⟨rfl,by omega⟩,by omega,by simp⟩
 ·rw [U (by omega)];simp (maxSteps:=9^9) (disch:=omega) [-G,-H,-F,-I,-J,om,h1,wK]
theorem Mi (s:Sh) (u:Int):ar cfg 91 [bw s,ζ 0 0] [η 3 [Y V u]]=N (Ε (s.unit==u), [η 3 [Y V u]]):=by refine aa adm Yk ?_;unfold bw;simp (maxSteps:=9^9) (disch:=omega) [-G,-H,-F,-I,-J,om,Yl]
theorem wX (nl:ν Ν) (z:θ) (l:Q Sh) (hz:l≠ []->z=6) (hl:Ê l<1000000) (u:Int):ar cfg 48 [ψ nl z (l.map bw),Y V u] []=N (Y V (aJ (aL l u)), []):=by
 refine aa adn Ym ?_;have h:=DQ nl z l hz hl 91 ⟨rfl,rfl,rfl,rfl⟩ 0 [η 3 [Y V u]] u (fun s=>Mi s u) (by simp) rfl;have ċ:=c6 l;generalize l.map bw=E at*
 simp (maxSteps:=9^9) (disch:=omega) [-G,-H,-F,-I,-J,om,Yn,h,ċ]
abbrev GS:=Q UInt8
structure TO (bs:Q af) (k j:θ) (a:AV) (s:GS):Prop where
 hk:af.at bs k= η 178 [a,φ j (Ê s)]
 hj:af.at bs j= Η ⟨Z,N 5,K⟩ 1 (s.map aq)
 ne:j≠k
 ha:a= .cn\/a= ζ k 0
 kl:k<Ê bs
 jl:j<Ê bs
 sh:shut (Ê bs) bs=Γ
theorem fj {n:θ}: ∀{bs:Q af} (k:θ) {x:af},shut n bs=true->shut n [x]=true->shut n (bs.set k x)=Γ
 | [],_,_,_,_=>rfl
 | b::r,0,x,h,hx=>by
  cases x <;> cases b <;> simp_all [shut]
 | b::r,k+1,x,h,hx=>by
  have:=fun (h:shut n r=Γ)=>fj (bs:=r) k h hx;cases b <;> simp_all [shut]
def jw (bs:Q af) (k j:θ) (s:GS):Q af:=(bs.set k (η 178 [ζ k 0,φ j (Ê s)])).set j (Η ⟨Z,N 5,K⟩ 1 (s.map aq))
theorem sH {bs:Q af} {k j:θ} {a:AV} {s:GS} (h:TO bs k j a s):ar cfg 187 [ζ k 0] bs=N (.aK [],bs.set k (η 178 [ζ k 0,φ j (Ê s)])):=by
 obtain ⟨hk,hj,ne,ha,kl,jl,sh⟩:=h;refine aa Yo TP ?_;have a1: ∀l,af.at (bs++l) k= η 178 [a,φ j (Ê s)]:=fun l=>by rw [fX _ _ kl,hk]
 have s1: ∀l b,(bs++l).set k b=bs.set k b++l:=fun l b=>γ _ _ kl;have m1:=shut_map (μ (Ê bs)) (fj k sh (x:= η 178 [ζ k 0,φ j (Ê s)]) (by simp [shut,aA,AV.under,kl,jl]));rcases ha with rfl | rfl
 ·simp (maxSteps:=9^9) (disch:=omega) [-G,-H,-F,-I,-J,om,Mj,Mk,ab,aD.descOf,hk,a1,s1,m1];exact ξ (by simp)
 ·have e:bs.set k (η 178 [ζ k 0,φ j (Ê s)])=bs:=by
   rw [<-hk];apply ω;intro i;by_cases hi:i=k
   ·subst hi;simp [af.at,kl,F]
   ·rw [τ (Ne.symm hi)]
  simp (maxSteps:=9^9) (disch:=omega) [-G,-H,-F,-I,-J,om,Mj,aD.descOf,hk,e]
theorem jb {bs:Q af} {k j:θ} {a:AV} {s:GS} (h:TO bs k j a s) (x:GS) (hl:Ê s<100000000) (hx:Ê x<1000000):
  ar cfg 147 [ζ k 0,ι x] bs=N (.aK [Y V (Ê x),.il Z],jw bs k j (s++x)):=by
 have hc:=sH h;obtain ⟨hk,hj,ne,ha,kl,jl,sh⟩:=h;refine aa Yp TQ ?_;have e1:af.at (bs.set k (η 178 [ζ k 0,φ j (Ê s)])) k= η 178 [ζ k 0,φ j (Ê s)]:=by rw [Go.Am.bO _ _ _ kl,P rfl]
 have e2:af.at (bs.set k (η 178 [ζ k 0,φ j (Ê s)])) j= Η ⟨Z,N 5,K⟩ 1 (s.map aq):=by rw [Go.Am.bO _ _ _ kl,O (Ne.symm ne),hj]
 have ĉ:=fj k sh (x:= η 178 [ζ k 0,φ j (Ê s)]) (by simp [shut,aA,AV.under,kl,jl]);have m2:=shut_map (μ (Ê bs)) (fj j ĉ (x:= Η ⟨Z,N 5,K⟩ 1 ((s++x).map aq)) rfl);have Ą:(bs.set k (η 178 [ζ k 0,φ j (Ê s)])).length=Ê bs:=by simp
 have Ă:jw bs k j (s++x)=((bs.set k (η 178 [ζ k 0,φ j (Ê s)])).set j (Η ⟨Z,N 5,K⟩ 1 ((s++x).map aq))).set k (η 178 [ζ k 0,φ j (s++x).length]):=by unfold jw;rw [Κ _ _ ne,Λ]
 rw [Ă];generalize bs.set k (η 178 [ζ k 0,φ j (Ê s)])=C at*
 have a1: ∀l,af.at (C++l) k= η 178 [ζ k 0,φ j (Ê s)]:=fun l=>by rw [fX _ _ (by omega),e1]
 have a2: ∀l,af.at (C++l) j= Η ⟨Z,N 5,K⟩ 1 (s.map aq):=fun l=>by rw [fX _ _ (by omega),e2]
 have s2: ∀l b,(C++l).set j b=C.set j b++l:=fun l b=>γ _ _ (by omega);have e3:af.at (C.set j (Η ⟨Z,N 5,K⟩ 1 (s.map aq++x.map aq))) k= η 178 [ζ k 0,φ j (Ê s)]:=by rw [Go.Am.bO _ _ _ (by omega),O ne,e1]
 have m3:=shut_map (μ (Ê bs)) (fj k (fj j ĉ (x:= Η ⟨Z,N 5,K⟩ 1 (s.map aq++x.map aq)) rfl) (x:= η 178 [ζ k 0,φ j (Ê s+Ê x)]) (by simp [shut,aA,AV.under,kl,jl]));have ą:(C.set j (Η ⟨Z,N 5,K⟩ 1 (s.map aq++x.map aq))).length=Ê bs:=by simp [Ą]
 generalize hD:C.set j (Η ⟨Z,N 5,K⟩ 1 (s.map aq++x.map aq))=D at*
 have b1: ∀l,af.at (D++l) k= η 178 [ζ k 0,φ j (Ê s)]:=fun l=>by rw [fX _ _ (by omega),e3]
 have t2: ∀l b,(D++l).set k b=D.set k b++l:=fun l b=>γ _ _ (by omega);simp (maxSteps:=9^9) (disch:=omega) [-G,-H,-F,-I,-J,om,Sc,hc,ab,a1,a2,s2,Ą,hD,b1,t2,m3,ą]
 try exact ξ (by simp [ą])
theorem far {C bs:Q af} (h:Ê C=Ê bs):(∀l,(C++l)[Ê bs]?=l[0]?)/\(∀l m,(C++l)[Ê bs+m]?=l[m]?)/\(∀l X,(C++l).set (Ê bs) X=C++l.set 0 X)/\(∀l m X,(C++l).set (Ê bs+m) X=C++l.set m X)/\(∀l,af.at (C++l) (Ê bs)=af.at l 0)/\(∀l m,af.at (C++l) (Ê bs+m)=af.at l m)/\(∀l,(C++l).take (Ê bs)=C):=by rw [<-h];exact ⟨fun l=>by simpa using eo C l 0,fun l m=>eo C l m,fun l X=>by simpa using dt C l 0 X,fun l m X=>dt C l m X,fun l=>by simpa using eN C l 0,fun l m=>eN C l m,fun l=>ξ rfl⟩
theorem sI {bs:Q af} {k j:θ} {a:AV} {s:GS} (h:TO bs k j a s) (x:UInt8) (hl:Ê s<100000000):
  ar cfg 148 [ζ k 0,Y .u8 (x.toNat:Int)] bs=N (.il Z,jw bs k j (s++ [x])):=by
 have hc:=sH h;obtain ⟨hk,hj,ne,ha,kl,jl,sh⟩:=h;refine aa Yq TR ?_;have e1:af.at (bs.set k (η 178 [ζ k 0,φ j (Ê s)])) k= η 178 [ζ k 0,φ j (Ê s)]:=by rw [Go.Am.bO _ _ _ kl,P rfl]
 have e2:af.at (bs.set k (η 178 [ζ k 0,φ j (Ê s)])) j= Η ⟨Z,N 5,K⟩ 1 (s.map aq):=by rw [Go.Am.bO _ _ _ kl,O (Ne.symm ne),hj]
 have ĉ:=fj k sh (x:= η 178 [ζ k 0,φ j (Ê s)]) (by simp [shut,aA,AV.under,kl,jl]);have Ą:(bs.set k (η 178 [ζ k 0,φ j (Ê s)])).length=Ê bs:=by simp
 have Ă:jw bs k j (s++ [x])=((bs.set k (η 178 [ζ k 0,φ j (Ê s)])).set j (Η ⟨Z,N 5,K⟩ 1 (s.map aq++ [aq x]))).set k (η 178 [ζ k 0,φ j (Ê s+1)]):=by unfold jw;rw [Κ _ _ ne,Λ];simp
 rw [Ă];generalize bs.set k (η 178 [ζ k 0,φ j (Ê s)])=C at*
 have a1: ∀l,af.at (C++l) k= η 178 [ζ k 0,φ j (Ê s)]:=fun l=>by rw [fX _ _ (by omega),e1]
 have a2: ∀l,af.at (C++l) j= Η ⟨Z,N 5,K⟩ 1 (s.map aq):=fun l=>by rw [fX _ _ (by omega),e2]
 have s2: ∀l b,(C++l).set j b=C.set j b++l:=fun l b=>γ _ _ (by omega);have e3:af.at (C.set j (Η ⟨Z,N 5,K⟩ 1 (s.map aq++ [aq x]))) k= η 178 [ζ k 0,φ j (Ê s)]:=by rw [Go.Am.bO _ _ _ (by omega),O ne,e1]
 have m3:=shut_map (μ (Ê bs)) (fj k (fj j ĉ (x:= Η ⟨Z,N 5,K⟩ 1 (s.map aq++ [aq x])) rfl) (x:= η 178 [ζ k 0,φ j (Ê s+1)]) (by simp [shut,aA,AV.under,kl,jl]));have ą:(C.set j (Η ⟨Z,N 5,K⟩ 1 (s.map aq++ [aq x]))).length=Ê bs:=by simp [Ą]
 generalize hD:C.set j (Η ⟨Z,N 5,K⟩ 1 (s.map aq++ [aq x]))=D at*
 have b1: ∀l,af.at (D++l) k= η 178 [ζ k 0,φ j (Ê s)]:=fun l=>by rw [fX _ _ (by omega),e3]
 have t2: ∀l b,(D++l).set k b=D.set k b++l:=fun l b=>γ _ _ (by omega);have Ě:AV.int .u8 (x.toNat:Int)=aq x:=rfl;obtain ⟨p1,p2,p3,p4,p5,p6,p7⟩:=far Ą;obtain ⟨q1,q2,q3,q4,q5,q6,q7⟩:=far ą;have z1:Ê bs+1-Ê bs=1:=by omega
 simp (maxSteps:=9^9) (disch:=omega) [-G,-H,-F,-I,-J,om,Sd,hc,ab,a1,a2,s2,Ą,hD,b1,t2,m3,ą,Ě,p1,p2,p3,p4,p5,p6,p7,q1,q2,q3,q4,q5,q6,q7,z1]
 try exact ξ (by simp [ą])
theorem rB {bs:Q af} {k j:θ} {a:AV} {s:GS} (h:TO bs k j a s) (hl:Ê s<100000000) (h0:s≠ []):
  ar cfg 149 [ζ k 0] bs=N (ι s,bs.set j (Η ⟨Z,K,K⟩ 1 (s.map aq))):=by
 obtain ⟨hk,hj,ne,ha,kl,jl,sh⟩:=h;refine aa Se Ml ?_;have hb:=qO s;have e1:af.at (bs.set j (Η ⟨Z,K,K⟩ 1 (s.map aq))) k= η 178 [a,φ j (Ê s)]:=by rw [Go.Am.bO _ _ _ jl,O ne,hk]
 have e2:af.at (bs.set j (Η ⟨Z,K,K⟩ 1 (s.map aq))) j= Η ⟨Z,K,K⟩ 1 (s.map aq):=by rw [Go.Am.bO _ _ _ jl,P rfl]
 cases s with
 | nil=>exact Μ rfl h0
 | cons c s=>
  simp only [Δ,δ] at*
  simp (maxSteps:=9^9) (disch:=omega) [-G,-H,-F,-I,-J,om,Mn,hk,hj,e1,e2,hb,aD.descOf]
theorem vy {bs:Q af} {k j:θ} {a:AV} (h:TO bs k j a []):
  ar cfg 149 [ζ k 0] bs=N (ι [],bs.set j (Η ⟨Z,K,K⟩ 1 [])):=by
 obtain ⟨hk,hj,ne,ha,kl,jl,sh⟩:=h;refine aa Se Ml ?_;have e1:af.at (bs.set j (Η ⟨Z,K,K⟩ 1 [])) k= η 178 [a,φ j 0]:=by rw [Go.Am.bO _ _ _ jl,O ne,hk];rfl
 have e2:af.at (bs.set j (Η ⟨Z,K,K⟩ 1 [])) j= Η ⟨Z,K,K⟩ 1 []:=by rw [Go.Am.bO _ _ _ jl,P rfl]
 simp only [List.length_nil,Α] at hk hj;simp (maxSteps:=9^9) (disch:=omega) [-G,-H,-F,-I,-J,om,Mn,hk,hj,e1,e2,aD.descOf]
open Go.Am Go.ChangeShapes Go.WideShapes Go.RowKit
structure Sh.Af (s:Sh):Prop where
 fz:s.facts≠ []->s.fz=3
 fl:s.facts.length<=maxLen
structure Ct.Af (c:Ct):Prop where
 lz:c.ad≠ []->c.lz=1
 bz:c.av≠ []->c.bz=4
 sz:c.ai≠ []->c.sz=6
 ll:c.ad.length<=maxLen
 bl:c.av.length<=maxLen
 sl:c.ai.length<=maxLen
 sh: ∀s∈c.ai,s.Af
theorem GU {m:θ} {cs:Q AV} (h:ot Tryz.prog m 9 cs): ∃s:ae,True/\aR (jL (Tryz.prog.underlying 9)) cs=AV.str s:=by obtain ⟨s,rfl,_⟩:=h.str (by kernel_rfl);exact ⟨s,trivial,by rw [show Tryz.prog.underlying 9=N .string by kernel_rfl];rfl⟩
theorem Ke {m:θ} {cs:Q AV} (h:ot Tryz.prog m 80 cs): ∃n:Lb,True/\aR (jL (Tryz.prog.underlying 80)) cs=dc n:=by
 have ā:Tryz.prog.underlying 80=N (.struct (aG Tryz.prog 80)):=by kernel_rfl
 have ă:(aG Tryz.prog 80).toList.map (·.type)= [3,9,9,3]:=by kernel_rfl
 obtain ⟨m,hs⟩:=h.struct ā;rw [ă] at hs;obtain ⟨a,r,rfl,ha,b,r2,rfl,hb,c,r3,rfl,hc,d,r4,rfl,hd,rfl⟩:=hs;obtain ⟨x,rfl,_⟩:=ha.int (k:= V) (by kernel_rfl);obtain ⟨s,rfl,_⟩:=hb.str (by kernel_rfl);obtain ⟨t,rfl,_⟩:=hc.str (by kernel_rfl);obtain ⟨y,rfl,_⟩:=hd.int (k:= V) (by kernel_rfl);exact ⟨⟨x,s,t,y⟩,trivial,by rw [ā];rfl⟩
theorem Mo {m:θ} {cs:Q AV} (h:ot Tryz.prog m 76 cs): ∃n:Fc,True/\aR (jL (Tryz.prog.underlying 76)) cs=dQ n:=by
 have ā:Tryz.prog.underlying 76=N (.struct (aG Tryz.prog 76)):=by kernel_rfl
 have ă:(aG Tryz.prog 76).toList.map (·.type)= [3,9,9]:=by kernel_rfl
 obtain ⟨m,hs⟩:=h.struct ā;rw [ă] at hs;obtain ⟨a,r,rfl,ha,b,r2,rfl,hb,c,r3,rfl,hc,rfl⟩:=hs;obtain ⟨x,rfl,_⟩:=ha.int (k:= V) (by kernel_rfl);obtain ⟨s,rfl,_⟩:=hb.str (by kernel_rfl);obtain ⟨t,rfl,_⟩:=hc.str (by kernel_rfl);exact ⟨⟨x,s,t⟩,trivial,by rw [ā];rfl⟩
theorem Kf {m:θ} {cs:Q AV} (h:ot Tryz.prog m 74 cs): ∃n:Sh,n.Af/\aR (jL (Tryz.prog.underlying 74)) cs=bw n:=by
 have ā:Tryz.prog.underlying 74=N (.struct (aG Tryz.prog 74)):=by kernel_rfl
 have ă:(aG Tryz.prog 74).toList.map (·.type)= [3,3,3,9,9,72]:=by kernel_rfl
 obtain ⟨m,hs⟩:=h.struct ā;rw [ă] at hs;obtain ⟨a,r,rfl,ha,b,r2,rfl,hb,c,r3,rfl,hc,d,r4,rfl,hd,e,r5,rfl,he,f,r6,rfl,hf,rfl⟩:=hs;obtain ⟨x,rfl,_⟩:=ha.int (k:= V) (by kernel_rfl);obtain ⟨y,rfl,_⟩:=hb.int (k:= V) (by kernel_rfl);obtain ⟨z,rfl,_⟩:=hc.int (k:= V) (by kernel_rfl);obtain ⟨s,rfl,_⟩:=hd.str (by kernel_rfl);obtain ⟨t,rfl,_⟩:=he.str (by kernel_rfl);obtain ⟨n1,z1,l1,rfl,p1,q1,s1,_⟩:=hf.ki (e:=76) dQ (fun _=>True) (by kernel_rfl) 3 (by kernel_rfl) (by decide) (fun m cs h=>Mo h);exact ⟨⟨x,y,z,s,t,l1,N n1,z1⟩,⟨fun hl=>p1 0 (List.length_pos_iff.2 hl),s1⟩,by rw [ā];rfl⟩
theorem IX {ts:Q TypeId} {xs:Q AV} (h:gl Tryz.prog (26::ts) xs): ∃(c:Ct) (r:Q AV),xs=br c::r/\c.Af/\gl Tryz.prog ts r:=by
 obtain ⟨n,cs,r,rfl,h1,h2⟩:=h;have ā:Tryz.prog.underlying 26=N (.struct (aG Tryz.prog 26)):=by kernel_rfl
 have ă:(aG Tryz.prog 26).toList.map (·.type)= [22,23,24]:=by kernel_rfl
 obtain ⟨m,hs⟩:=h1.struct ā;rw [ă] at hs;obtain ⟨a,r1,rfl,ha,b,r2,rfl,hb,c,r3,rfl,hc,rfl⟩:=hs;obtain ⟨n1,z1,l1,rfl,p1,q1,s1,_⟩:=ha.ki (e:=9) AV.str (fun _=>True) (by kernel_rfl) 1 (by kernel_rfl) (by decide) (fun m cs h=>GU h);obtain ⟨n2,z2,l2,rfl,p2,q2,s2,_⟩:=hb.ki (e:=80) dc (fun _=>True) (by kernel_rfl) 4 (by kernel_rfl) (by decide) (fun m cs h=>Ke h);obtain ⟨n3,z3,l3,rfl,p3,q3,s3,t3⟩:=hc.ki (e:=74) bw Sh.Af (by kernel_rfl) 6 (by kernel_rfl) (by decide) (fun m cs h=>Kf h);exact ⟨⟨l1,l2,l3,N n1,z1,N n2,z2,N n3,z3⟩,r,by rw [ā];rfl,⟨fun hl=>p1 0 (List.length_pos_iff.2 hl),fun hl=>p2 0 (List.length_pos_iff.2 hl),fun hl=>p3 0 (List.length_pos_iff.2 hl),s1,s2,s3,t3⟩,h2⟩
theorem Mp {ts:Q TypeId} {xs:Q AV} (h:gl Tryz.prog (3::ts) xs): ∃(i:Int) (r:Q AV),xs= Y V i::r/\ -9223372036854775808<=i/\i<=9223372036854775807/\gl Tryz.prog ts r:=by obtain ⟨n,cs,r,rfl,h1,h2⟩:=h;obtain ⟨x,rfl,hx⟩:=h1.int (k:= V) (by kernel_rfl);simp [Lit.wf,IntKind.min,IntKind.max,IntKind.signed,IntKind.bits] at hx;exact ⟨x,r,by rw [show Tryz.prog.underlying 3=N (TypeDesc.int V) by kernel_rfl];rfl,by omega,by omega,h2⟩
theorem Kg {ts:Q TypeId} {xs:Q AV} (h:gl Tryz.prog (9::ts) xs): ∃(s:ae) (r:Q AV),xs= ι s::r/\Ê s<=maxLen/\gl Tryz.prog ts r:=by obtain ⟨n,cs,r,rfl,h1,h2⟩:=h;obtain ⟨s,rfl,hs⟩:=h1.str (by kernel_rfl);exact ⟨s,r,by rw [show Tryz.prog.underlying 9=N .string by kernel_rfl];rfl,hs,h2⟩
def im (z:Cell):AV:= Ι [Y V z.1,Y V z.2]
def nr (e:Cell×θ):AV×AV×θ:=(im e.1,Ε Γ,e.2)
def mE (z:Cell):Q (Cell×θ)->θ->ν (θ×Cell×θ)
 | [],_=>K
 | e::r,i=>if e.1=z then N (i,e) else mE z r (i+1)
theorem Cd (z:Cell): ∀(m:Q (Cell×θ)) (i:θ),la (bu cfg 20 78) (im z) (m.map nr) i=N ((mE z m i).map fun p=>(p.1,nr p.2))
 | [],i=>rfl
 | e::r,i=>by
  have ih:=Cd z r (i+1);have he:bu cfg 20 78 (im z) (nr e).1=N (z.1==e.1.1&&z.2==e.1.2):=by simp (config:={maxSteps:=1000000}) (disch:=omega) [-G,-H,-F,-I,-J,wrap_i64,p9,lg,lh,jM,nr,im]
  simp only [δ,la,he,mE];by_cases hs:e.1=z
  ·subst hs;simp
  ·have ě:(z.1==e.1.1&&z.2==e.1.2)=false:=by
    cases h:(z.1==e.1.1&&z.2==e.1.2) with
    | false=>rfl
    | true=>simp at h;exact Μ (Prod.ext h.1.symm h.2.symm) hs
   simp only [ě,O hs];exact ih
theorem kj (z:Cell): ∀(m:Q (Cell×θ)) (i j:θ) (e:Cell×θ),mE z m i=N (j,e)->i<=j/\m[j-i]?=N e/\e.1=z
 | [],i,j,e,h=>by cases h
 | x::r,i,j,e,h=>by
  simp only [mE] at h;split at h
  ·rename_i hs;cases h;exact ⟨μ _,by simp,hs⟩
  ·obtain ⟨h1,h2,h3⟩:=kj z r (i+1) j e h;refine ⟨by omega,?_,h3⟩;rw [show j-i=(j-(i+1))+1 by omega];simpa using h2
def gr (m:Q (Cell×θ)) (clock:θ) (z:Cell):Q (Cell×θ):=match mE z m 0 with
 | some _=>m
 | none=>m++ [(z,clock)]
def fc (m:Q (Cell×θ)) (clock:θ) (z:Cell):θ:=match mE z m 0 with
 | some _=>clock
 | none=>clock+1
theorem PU {bs:Q af} {k clock:θ} {m:Q (Cell×θ)} (h:af.at bs k= .mp (m.map nr) clock) (z:Cell):aH cfg (cfg.ti 101) (.cg k) (im z) (Ε Γ) bs=N (.aK [],.upd k (.mp ((gr m clock z).map nr) (fc m clock z))):=by
 have hf:=Cd z m 0;unfold gr fc;cases hq:mE z m 0 with
 | none=>rw [hq] at hf;unfold im at*;simp [aH,bU,gD,jc,fY,fk,gE,h,hf,-bu,nr,im]
 | some p=>
  obtain ⟨j,e⟩:=p;obtain ⟨_,hj,he⟩:=kj z m 0 j e hq;rw [hq] at hf;subst he
  have Ď:(m.map nr).set j (im e.1,Ε Γ,e.2)=m.map nr:=by
   apply ω;intro i;by_cases hi:j=i
   ·subst hi;simp only [Nat.sub_zero] at hj
    have hl:j<Ê m:=by
     rcases Nat.lt_or_ge j (Ê m) with h' | h'
     ·exact h'
     ·rw [List.getElem?_eq_none h'] at hj;cases hj
    rw [List.getElem?_set_self (by simpa using hl),List.getElem?_map,hj];rfl
   ·rw [τ hi]
  unfold im at*
  simp [aH,bU,gD,jc,fY,fk,gE,h,hf,-bu,nr,im,sameKey,gR,mF,Ď]
theorem rC (z:Cell): ∀(m:Q (Cell×θ)) (i:θ),mE z m i=none-> ∀e∈m,e.1≠z
 | [],_,_,_,h=>by cases h
 | x::r,i,h,e,he=>by
  simp only [mE] at h;split at h
  ·cases h
  ·rename_i hs;rcases List.mem_cons.mp he with rfl | he
   ·exact hs
   ·exact rC z r (i+1) h e he
structure xv (m:Q (Cell×θ)) (clock:θ):Prop where
 keys:(m.map κ).Nodup
 born:(m.map Θ).Nodup
 lt: ∀e∈m,e.2<clock
theorem iT {m:Q (Cell×θ)} {clock:θ} (h:xv m clock) (z:Cell):xv (gr m clock z) (fc m clock z)/\ ∀y,y∈(gr m clock z).map κ↔y∈m.map κ\/y=z:=by
 unfold gr fc;cases hq:mE z m 0 with
 | some p=>
  obtain ⟨j,e⟩:=p;obtain ⟨_,hj,he⟩:=kj z m 0 j e hq;refine ⟨h,fun y=>⟨.inl,fun hy=> ?_⟩⟩;rcases hy with hy | rfl
  ·exact hy
  ·exact List.mem_map.mpr ⟨e,List.mem_of_getElem? hj,he⟩
 | none=>
  have hn:=rC z m 0 hq;refine ⟨⟨?_,?_,?_⟩,fun y=>by simp⟩
  ·simp only [Ζ,δ,Α];refine List.nodup_append.mpr ⟨h.keys,by simp,fun a ha b hb=> ?_⟩;obtain ⟨e,he,rfl⟩:=List.mem_map.mp ha;simp at hb;subst hb;exact hn e he
  ·simp only [Ζ,δ,Α];refine List.nodup_append.mpr ⟨h.born,by simp,fun a ha b hb=> ?_⟩;obtain ⟨e,he,rfl⟩:=List.mem_map.mp ha;simp at hb;subst hb;have:=h.lt e he;omega
  ·intro e he;rcases List.mem_append.mp he with he | he
   ·exact Nat.lt_succ_of_lt (h.lt e he)
   ·simp at he;subst he;simp
def aN (l:Q (Cell×ae)):Q AV:=l.map lR
theorem fm (l:Q (Cell×ae)):(aN l).length=Ê l:=by simp [aN]
theorem L6 (l:Q (Cell×ae)): ∀k (h:k<Ê l),(aN l)[k]?=N (Ι [Y V l[k].1.1,Y V l[k].1.2,ι l[k].2]):=fun k h=>get_map _ _ h
theorem aS: ∀l:Q (Cell×ae),ak (aN l)=Γ
 | []=>rfl
 | x::r=>by simp [aN,lR,ak,AV.plain];exact aS r
theorem qa {α β:Type} {f:α->β}: ∀{M:Q α} {a b:α},(M.map f).Nodup->a∈M->b∈M->f a=f b->a=b
 | x::r,a,b,hn,ha,hb,h=>by
  rw [δ,σ] at hn;rcases List.mem_cons.1 ha with rfl | Ĕ
  ·rcases List.mem_cons.1 hb with rfl | ď
   ·rfl
   ·exact Μ (h▸List.mem_map.mpr ⟨b,ď,rfl⟩) hn.1
  ·rcases List.mem_cons.1 hb with rfl | ď
   ·exact Μ (h▸List.mem_map.mpr ⟨a,Ĕ,rfl⟩) hn.1
   ·exact qa hn.2 Ĕ ď h
theorem Sf: ∀(M:Q (Cell×θ)) (i:θ) (e:Cell×θ),e∈M->(M.map Θ).Nodup-> ∃j,vz (e.2:Int) (M.map nr) i=N (j,nr e)
 | x::r,i,e,he,hn=>by
  have hn2:=hn;rw [δ,σ] at hn2;simp only [δ,vz];by_cases hx:x.2=e.2
  ·have Ĝ:=qa hn (χ ..) he hx;subst Ĝ;exact ⟨i,by simp [nr]⟩
  ·have he:e∈r:=by
    rcases List.mem_cons.1 he with h | h
    ·exact Μ (by rw [h]) hx
    ·exact h
   obtain ⟨j,hj⟩:=Sf r (i+1) e he hn2.2;refine ⟨j,?_⟩;rw [O (by simp only [nr];omega)];exact hj
theorem nu {α β:Type} [DecidableEq α] {f:α->β}: ∀{l M:Q α},(l.map f).Nodup->(∀e∈l,e∈M)->Ê l<=Ê M
 | [],M,_,_=>by simp
 | x::r,M,hn,h=>by
  rw [δ,σ] at hn;have hx:=h x (χ ..)
  have h2:=nu (l:=r) (M:=M.erase x) hn.2 fun e he=>(List.mem_erase_of_ne (by
   rintro rfl;exact hn.1 (List.mem_map.mpr ⟨e,he,rfl⟩))).2 (h e (List.mem_cons_of_mem _ he))
  rw [List.length_erase_of_mem hx] at h2;have:0<Ê M:=List.length_pos_of_mem hx;simp only [Δ];omega
theorem GV {M:Q (Cell×θ)} {clock:θ} (h:xv M clock) {S:Q Cell} (hS:ko S) (hM: ∀z,z∈M.map κ↔z∈S) (val:Cell->ae) {l:Q (Cell×θ)} (hl: ∀e∈l,e∈M) (hn:(l.map Θ).Nodup) (Đ: ∀e∈M,(l.map Θ).contains e.2=Γ):
  ((l.map fun e=>(e.1,val e.1)).map κ).Nodup/\sJ (l.map fun e=>(e.1,val e.1))=S.map fun z=>(z,val z):=by
 have đ: ∀e∈M,e∈l:=fun e he=>by
  have h1:=Đ e he;rw [List.contains_iff_mem] at h1;obtain ⟨e',h2,h3⟩:=List.mem_map.1 h1;have:=qa h.born (hl _ h2) he h3
  rwa [<-this]
 have hk:(l.map κ).Nodup:=by unfold List.Nodup at hn⊢;rw [Β] at hn⊢;refine List.Pairwise.imp_of_mem (fun {a b} ha hb Ċ hf=> ?_) hn;exact Ċ (by rw [qa h.keys (hl _ ha) (hl _ hb) hf])
 have he:(l.map fun e=>(e.1,val e.1)).map κ=l.map κ:=by simp
 rw [he];refine ⟨hk,?_⟩;have hp:(sJ (l.map fun e=>(e.1,val e.1))).Perm (l.map fun e=>(e.1,val e.1)):=by unfold sJ;exact List.mergeSort_perm _ _
 refine Ce hS (fun r hr=> ?_) (fun z=> ?_) ?_ ?_
 ·obtain ⟨e,_,rfl⟩:=List.mem_map.1 (hp.mem_iff.1 hr);rfl
 ·rw [<-hM,(hp.map κ).mem_iff,he];constructor
  ·intro hz;obtain ⟨e,h1,rfl⟩:=List.mem_map.1 hz;exact List.mem_map.mpr ⟨e,hl _ h1,rfl⟩
  ·intro hz;obtain ⟨e,h1,rfl⟩:=List.mem_map.1 hz;exact List.mem_map.mpr ⟨e,đ _ h1,rfl⟩
 ·rw [(hp.map κ).nodup_iff,he];exact hk
 ·rw [Β];unfold sJ
  have hs:=List.pairwise_mergeSort (le:=fun x y:Cell×ae=> !decide (gS y.1 x.1<0)) (fun a b c h1 h2=>by
   simp only [ο,ε,gm] at h1 h2⊢;rw [gT] at*;omega) (fun a b=>by
   simp only [Bool.or_eq_true,ο,ε,gm];rw [gT,gT];omega) (l.map fun e=>(e.1,val e.1))
  refine hs.imp fun {a b} Ċ=> ?_;simp only [ο,ε,gm] at Ċ;exact Ċ
