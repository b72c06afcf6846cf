/- The reference's Check, part by part: -/
import Derived.Test.YtfgbpngakkhdcaaGreatDoorDpM
open Bool renaming false->ξ,true->Θ,eq_false_iff->Ψ,eq_iff_iff->Ϗ,false_or->ϔ
open Go.Am.AV renaming aC->ύ,agg->Α,ah->ν,bool->Ι,int->Q,ptr->φ,str->η
open Go.Am.af renaming sl->ϋ,var->π
open Go.IntKind renaming i64->U
open Go.Lib renaming itoa->ε,itoa_length_le->σ
open Int renaming lt_trichotomy->Υ,toNat_natCast->ω
open List renaming length->Ê,append_nil->Ζ,contains_cons->Ρ,count_le_length->Ξ,drop_eq_getElem_cons->W,drop_eq_nil_of_le->O,find?_cons_of_neg->ψ,find?_cons_of_pos->Λ,findSome?_cons->Ο,findSome?_nil->Τ,foldl_append->ϊ,getD_eq_getElem?_getD->C,getElem?_cons_succ->Κ,getElem?_eq_getElem->γ,getElem_mem->ι,length_append->τ,length_cons->ζ,length_filter_le->υ,length_nil->χ,length_take->Γ,map_append->ϐ,map_cons->Δ,map_nil->Μ,map_replicate->F,map_set->H,take_length->θ,take_of_length_le->Β
open Nat renaming le_refl->ρ,le_trans->Χ,strongRecOn->ώ
open Option renaming none->K,some->M,getD_some->ό,map_none->Ν,map_some->Ε
open Prod renaming ext->ϒ
open _root_ renaming Bool->Φ,List->κ,Nat->ο,Option->μ,beq_eq_false_iff_ne->Η,beq_iff_eq->ϑ,congrArg->ϓ,decide_eq_true_eq->Ω,getElem?_neg->J,getElem?_pos->I,if_neg->δ,if_pos->Z
set_option linter.all false
namespace Go.Proofs.YtfgbpngakkhdcaaGreatDoor
open Go.Am
set_option maxRecDepth 10000
set_option maxHeartbeats 4000000
theorem qD (nl:μ Φ) (z:ο) (L:κ ae) (hz:L≠ []->z=1) (hL:Ê L<1000000) (w:ae):ar cfg 68 [ν nl z (au L),η w] []=M (Ι (cD L w), []):=by
 refine aa aeb aaX ?_;simp (maxSteps:=9^9) (disch:=omega) [-F,-H,-C,-I,-J,om,aaY,ke];refine Wp.az (fun (i:ο)=>Ê L-i) (fun i=> [M (ν nl z (au L)),M (η w),K,M (Q U i),K,K]) (fun _=> []) (fun i=>cD L w=cD (L.drop i) w/\i<=Ê L) ?_ 0 ⟨by simp,by omega⟩ (by simp) rfl;rintro i ⟨hi,hl⟩;rw [hi];by_cases h1:i<Ê L
 ·have hg:=my L h1;obtain rfl:=hz (ne_of_lt h1);rw [DL L h1] at hi⊢;simp only [cD,List.any_cons] at hi⊢;generalize L.getD i []=x at*
  cases he:w==x with
  | true=>
   have ė:(x==w)=true:=by simpa using (beq_iff_eq.1 he).symm
   simp (maxSteps:=9^9) (disch:=omega) [-F,-H,-C,-I,-J,om,h1,hg,ė]
  | false=>
   have ė:(x==w)=false:=by rw [Η] at he⊢;exact Ne.symm he
   rw [he,ϔ] at hi;simp (maxSteps:=9^9) (disch:=omega) [-F,-H,-C,-I,-J,om,h1,hg,ė];exact ⟨i+1,⟨by first | exact hi | rfl | simp [cD],by omega⟩,by omega,by simp⟩
 ·rw [O (by omega)];simp (maxSteps:=9^9) (disch:=omega) [-F,-H,-C,-I,-J,om,h1,cD]
theorem RG (s:ae):ar cfg 167 [η s] []=M (Ι (Cc s), []):=by
 refine aa aaZ Wg ?_;unfold Cc;by_cases h:Ê s=2
 ·match s,h with
  | [a,b],_=>
   simp only [List.getD_cons_zero,List.getD_cons_succ]
   by_cases h1:97<=a.toNat <;> by_cases h2:a.toNat<=122 <;> by_cases h3:97<=b.toNat <;> by_cases h4:b.toNat<=122 <;>
    first
    | omega
    | simp (maxSteps:=9^9) (disch:=omega) [-F,-H,-C,-I,-J,om,ON,h1,h2,h3,h4]
 ·have h2:((Ê s:Int)==2)=false:=by simp;omega
  simp (maxSteps:=9^9) (disch:=omega) [-F,-H,-C,-I,-J,om,ON,h,h2]
theorem OO (e:Int) (s:ae) (f:Int) (t:ae):ar cfg 168 [Q U e,η s,Q U f,η t] []=M (Ι (mC e s f t), []):=by
 refine aa aa0 Wh ?_
 have hb:Op.bytesLess s t=decide (Lib.compareBytes s t<0):=by obtain ⟨h1,_,h3⟩:=mB s t;rw [h1,decide_eq_decide];omega
 unfold mC;rcases Υ e f with h | h | h
 ·simp (maxSteps:=9^9) (disch:=omega) [-F,-H,-C,-I,-J,om,J3,h,hb]
 ·subst h;simp (maxSteps:=9^9) (disch:=omega) [-F,-H,-C,-I,-J,om,J3,hb]
 ·have h1: ¬ e<f:=by omega
  have h2: ¬ e=f:=by omega
  have h3:(e==f)=false:=by simpa using h2
  simp (maxSteps:=9^9) (disch:=omega) [-F,-H,-C,-I,-J,om,J3,h1,h2,h3,hb]
theorem LN (nl:μ Φ) (z:ο) (L:κ ae) (hz:L≠ []->z=1) (hl:Ê L<1000000):ar cfg 117 [ν nl z (au L)] []=M (Q U (lQ L), []):=by
 refine aa aa1 Wi ?_;unfold lQ;by_cases h0:Ê L<1
 ·simp (maxSteps:=9^9) (disch:=omega) [-F,-H,-C,-I,-J,om,J4,h0]
 by_cases h8:8<Ê L
 ·simp (maxSteps:=9^9) (disch:=omega) [-F,-H,-C,-I,-J,om,J4,h0,h8]
 obtain rfl:z=1:=hz (by intro h;rw [h] at h0;simp at h0);have hif:(if (Ê L)<1\/8<Ê L then 2 else ej [] L)=ej [] L:=δ (by omega);rw [hif];simp (maxSteps:=9^9) (disch:=omega) [-F,-H,-C,-I,-J,om,J4,h0,h8];refine Wp.az (fun (i:ο)=>Ê L-i) (fun i=> [M (ν nl 1 (au L)),K,M (Q U i),K,K,K,K,K,K]) (fun _=> []) (fun i=>ej [] L=ej (L.take i) (L.drop i)/\i<=Ê L) ?_ 0 ⟨by simp,by omega⟩ (by simp) rfl;rintro i ⟨hi,Ă⟩;rw [hi];by_cases h1:i<Ê L
 ·have hg:(au L)[i]?=M (η L[i]):=by simp [au,h1]
  have Ē:(au L).take i=au (L.take i):=by simp [au]
  have ht:=RG L[i];have hh:=qD nl 1 (L.take i) (fun _=>rfl) (by simp;omega) L[i];rw [W h1] at hi⊢;simp only [ej] at hi⊢;rw [<-mD L h1] at hi⊢;generalize L[i]=x at*
  cases he:Cc x with
  | false=>rw [he] at ht;simp (maxSteps:=9^9) (disch:=omega) [-F,-H,-C,-I,-J,om,h1,hg,ht]
  | true=>
   rw [he] at hi ht;cases hb:cD (L.take i) x with
   | true=>rw [hb] at hh;simp (maxSteps:=9^9) (disch:=omega) [-F,-H,-C,-I,-J,om,h1,hg,ht,Ē,hh]
   | false=>rw [hb] at hi hh;simp (maxSteps:=9^9) (disch:=omega) [-F,-H,-C,-I,-J,om,h1,hg,ht,Ē,hh];exact ⟨i+1,⟨by simpa using hi,by omega⟩,by omega,by simp⟩
 ·rw [O (by omega)];simp (maxSteps:=9^9) (disch:=omega) [-F,-H,-C,-I,-J,om,h1,ej]
theorem OP (c:Ct) (hc:c.ok):ar cfg 118 [br c] []=M (Q U (qN c.ad c.av), []):=by
 refine aa aa2 Wj ?_;have hl:=hc.ll;have hz:=hc.lz;have hbl:=hc.bl;have Ī:=hc.bz;unfold qN br dm;generalize c.ai.map bw=A3 at*
 generalize c.ad=L at*
 generalize c.lz=z at*
 generalize c.av=B at*
 generalize c.bz=bz at*
 have Ċ:=bW dc B;have hE:=gE0 B;have ď:ak (B.map dc)=true:=mw B;generalize B.map dc=E at*
 by_cases h0:256<Ê B
 ·simp (maxSteps:=9^9) (disch:=omega) [-F,-H,-C,-I,-J,om,OQ,h0,Ċ]
 rw [δ h0];simp (maxSteps:=9^9) (disch:=omega) [-F,-H,-C,-I,-J,om,OQ,h0,Ċ];refine Wp.az (fun (a:ο×μ AV)=>Ê B-a.1) (fun a=> [K,M (φ 0 0),K,M (Q U a.1),K,K,K,K,K,K,K,K,a.2,K,K]) (fun _=> [π 26 [ν c.ln z (au L),ν c.bn bz E,ν c.sn c.sz A3]]) (fun a=>e7 L K B=e7 L (if a.1=0 then K else B[a.1-1]?) (B.drop a.1)/\a.1<=Ê B) ?_ (0,K) ⟨by simp,by simp⟩ (by simp) rfl;rintro ⟨i,o⟩ ⟨hi,Ă⟩;simp only at hi Ă⊢;rw [hi];clear hi;by_cases h1:i<Ê B
 ·have hg:=hE i h1;obtain rfl:bz=4:=Ī (ne_of_lt h1);have hh:=qD c.ln z L hz hl B[i].lang;rw [W h1];simp only [e7];have fin: ∃a,(e7 L (M B[i]) (B.drop (i+1))=e7 L (if a=0 then K else B[a-1]?) (B.drop a)/\a<=Ê B)/\Ê B-a<Ê B-i/\(i:Int)+1=(a:Int):=⟨i+1,⟨by simp [h1],by omega⟩,by omega,by simp⟩;have hp:i≠0-> ∃p,B[i-1]?=M p/\E[i-1]?=M (Α [Q U p.el,η p.lang,η p.text,Q U p.ix]):=fun h=>⟨B[i-1],γ (by omega),hE _ (by omega)⟩;clear hE hz Ī;generalize e7 L (M B[i]) (B.drop (i+1))=R at*
  generalize B[i]=x at*
  have Ĝ:x.text= []↔x.text.length=0:=by simp
  by_cases hi0:i=0
  ·subst hi0;rw [Z rfl];clear hp;generalize ā:ux L K x=lv at*
   simp (maxSteps:=9^9) (disch:=omega) [-F,-H,-C,-I,-J,om,h1,hg,ab,hh,Ċ];unfold ux at ā;by_cases e1:((x.el<1\/64<x.el)\/x.ix<0)\/3<x.ix
   ·rw [Z e1];rw [Z (by omega)] at ā;subst ā;rfl
   rw [δ e1];rw [δ (by omega)] at ā;cases e2:cD L x.lang with
   | false=>rw [δ (by simp)];rw [Z e2] at ā;subst ā;rfl
   | true=>
    rw [Z rfl];rw [δ (by simp [e2])] at ā;by_cases e3:x.text= []\/64<(x.text.length:Int)
    ·rw [Z e3];rw [Z (by rcases e3 with h | h;rw [h];simp;omega)] at ā;subst ā;rfl
    rw [δ e3];rw [δ (by rw [not_or,Ĝ] at e3;omega)] at ā;subst ā;rw [Z rfl];obtain ⟨a,b1,b2,b3⟩:=fin;exact ⟨a,b1,by omega,by omega⟩
  ·obtain ⟨p,q1,q2⟩:=hp hi0;rw [δ hi0,q1];have c1:=OO p.el p.lang x.el x.lang;have č:(i:Int)≠0:=by omega
   have Đ:((i:Int)-1).toNat=i-1:=by omega
   have Ģ:(0:Int)<(i:Int):=by omega
   clear hp;generalize ā:ux L (M p) x=lv at*
   simp (maxSteps:=9^9) (disch:=omega) [-F,-H,-C,-I,-J,om,h1,hg,ab,hh,hi0,č,Đ,Ģ,q2,c1,Ċ];unfold ux at ā;by_cases e1:((x.el<1\/64<x.el)\/x.ix<0)\/3<x.ix
   ·rw [Z e1];rw [Z (by omega)] at ā;subst ā;rfl
   rw [δ e1];rw [δ (by omega)] at ā;cases e2:cD L x.lang with
   | false=>rw [δ (by simp)];rw [Z e2] at ā;subst ā;rfl
   | true=>
    rw [Z rfl];rw [δ (by simp [e2])] at ā;by_cases e3:x.text= []\/64<(x.text.length:Int)
    ·rw [Z e3];rw [Z (by rcases e3 with h | h;rw [h];simp;omega)] at ā;subst ā;rfl
    rw [δ e3];rw [δ (by rw [not_or,Ĝ] at e3;omega)] at ā;simp only at ā;cases e4:mC p.el p.lang x.el x.lang with
    | false=>rw [δ (by simp)];rw [Z e4] at ā;subst ā;rfl
    | true=>
     rw [Z rfl];rw [δ (by simp [e4])] at ā;by_cases e5:p.el=x.el/\ ¬ p.ix=x.ix
     ·rw [Z e5];rw [Z e5] at ā;subst ā;rfl
     rw [δ e5];rw [δ e5] at ā;subst ā;rw [Z rfl];exact fin
 ·rw [O (by omega)];simp (maxSteps:=9^9) (disch:=omega) [-F,-H,-C,-I,-J,om,h1,e7,Ċ]
theorem OR (c:Ct) (hc:c.ok) (nl:μ Φ) (bz:ο) (B:κ Fc) (Ī:B≠ []->bz=3) (hbl:Ê B<1000000):ar cfg 169 [br c,ν nl bz (B.map dQ)] []=M (Q U (k9 c.ad B), []):=by
 refine aa aa3 Wk ?_;have hl:=hc.ll;have hz:=hc.lz;unfold k9 br dm;generalize c.ai.map bw=A3 at*
 generalize c.av.map dc=A2 at*
 generalize c.ad=L at*
 generalize c.lz=z at*
 have Ċ:=bW dQ B;have hE:=PB B;have ď:ak (B.map dQ)=true:=iF B;generalize B.map dQ=E at*
 by_cases h0:32<Ê B
 ·simp (maxSteps:=9^9) (disch:=omega) [-F,-H,-C,-I,-J,om,OS,h0,Ċ]
 rw [δ h0];simp (maxSteps:=9^9) (disch:=omega) [-F,-H,-C,-I,-J,om,OS,h0,Ċ];refine Wp.az (fun (a:ο×μ AV)=>Ê B-a.1) (fun a=> [K,M (ν nl bz E),M (φ 0 0),K,M (Q U a.1),K,K,K,K,K,K,K,K,a.2,K]) (fun _=> [π 26 [ν c.ln z (au L),ν c.bn c.bz A2,ν c.sn c.sz A3]]) (fun a=>e8 L K B=e8 L (if a.1=0 then K else B[a.1-1]?) (B.drop a.1)/\a.1<=Ê B) ?_ (0,K) ⟨by simp,by simp⟩ (by simp) rfl;rintro ⟨i,o⟩ ⟨hi,Ă⟩;simp only at hi Ă⊢;rw [hi];clear hi;by_cases h1:i<Ê B
 ·have hg:=hE i h1;obtain rfl:bz=3:=Ī (ne_of_lt h1);have hh:=qD c.ln z L hz hl B[i].lang;rw [W h1];simp only [e8];have fin: ∃a,(e8 L (M B[i]) (B.drop (i+1))=e8 L (if a=0 then K else B[a-1]?) (B.drop a)/\a<=Ê B)/\Ê B-a<Ê B-i/\(i:Int)+1=(a:Int):=⟨i+1,⟨by simp [h1],by omega⟩,by omega,by simp⟩;have hp:i≠0-> ∃p,B[i-1]?=M p/\E[i-1]?=M (Α [Q U p.el,η p.lang,η p.text]):=fun h=>⟨B[i-1],γ (by omega),hE _ (by omega)⟩;clear hE hz Ī;generalize e8 L (M B[i]) (B.drop (i+1))=R at*
  generalize B[i]=x at*
  have Ĝ:x.text= []↔x.text.length=0:=by simp
  by_cases hi0:i=0
  ·subst hi0;rw [Z rfl];clear hp;generalize ā:wJ L K x=lv at*
   simp (maxSteps:=9^9) (disch:=omega) [-F,-H,-C,-I,-J,om,h1,hg,ab,hh,Ċ];unfold wJ at ā;by_cases e1:x.el<1\/64<x.el
   ·rw [Z e1];rw [Z e1] at ā;subst ā;rfl
   rw [δ e1];rw [δ e1] at ā;cases e2:cD L x.lang with
   | false=>rw [δ (by simp)];rw [Z e2] at ā;subst ā;rfl
   | true=>
    rw [Z rfl];rw [δ (by simp [e2])] at ā;by_cases e3:x.text= []\/4096<(x.text.length:Int)
    ·rw [Z e3];rw [Z (by rcases e3 with h | h;rw [h];simp;omega)] at ā;subst ā;rfl
    rw [δ e3];rw [δ (by rw [not_or,Ĝ] at e3;omega)] at ā;subst ā;rw [Z rfl];obtain ⟨a,b1,b2,b3⟩:=fin;exact ⟨a,b1,by omega,by omega⟩
  ·obtain ⟨p,q1,q2⟩:=hp hi0;rw [δ hi0,q1];have c1:=OO p.el p.lang x.el x.lang;have č:(i:Int)≠0:=by omega
   have Đ:((i:Int)-1).toNat=i-1:=by omega
   have Ģ:(0:Int)<(i:Int):=by omega
   clear hp;generalize ā:wJ L (M p) x=lv at*
   simp (maxSteps:=9^9) (disch:=omega) [-F,-H,-C,-I,-J,om,h1,hg,ab,hh,hi0,č,Đ,Ģ,q2,c1,Ċ];unfold wJ at ā;by_cases e1:x.el<1\/64<x.el
   ·rw [Z e1];rw [Z e1] at ā;subst ā;rfl
   rw [δ e1];rw [δ e1] at ā;cases e2:cD L x.lang with
   | false=>rw [δ (by simp)];rw [Z e2] at ā;subst ā;rfl
   | true=>
    rw [Z rfl];rw [δ (by simp [e2])] at ā;by_cases e3:x.text= []\/4096<(x.text.length:Int)
    ·rw [Z e3];rw [Z (by rcases e3 with h | h;rw [h];simp;omega)] at ā;subst ā;rfl
    rw [δ e3];rw [δ (by rw [not_or,Ĝ] at e3;omega)] at ā;simp only at ā;cases e4:mC p.el p.lang x.el x.lang with
    | false=>rw [δ (by simp)];rw [Z e4] at ā;subst ā;rfl
    | true=>rw [Z rfl];rw [δ (by simp [e4])] at ā;subst ā;rw [Z rfl];exact fin
 ·rw [O (by omega)];simp (maxSteps:=9^9) (disch:=omega) [-F,-H,-C,-I,-J,om,h1,e8,Ċ]
def ij (l:κ Sh):μ ο->κ Int
 | some j=>chain l j
 | none=> []
def vp:κ Int->Int->Φ
 | [],_=>ξ
 | x::r,u=>(x==u) || vp r u
theorem xn: ∀(L:κ Int) (u:Int),vp L u=L.contains u
 | [],_=>rfl
 | x::r,u=>by
  rw [vp,xn r u,Ρ];congr 1;exact Bool.beq_comm
theorem jW (c:Ct) (hc:c.ok) (n:ο) (hn:n<=c.ai.length) (u:Int):ar cfg 69 [br c,Q U n,Q U u] []=M (Q U (aJ (aL (c.ai.take n) u)), []):=by
 refine aa aec aa4 ?_;have hz:=hc.sz;have hl:=hc.sl;have hg:=fun i (h:i<c.ai.length)=>gQ c.ai h;have Ā:=bW bw c.ai;have hp:=c6 c.ai;unfold br dm;generalize c.av.map dc=A2 at*
 generalize au c.ad=A1 at*
 generalize c.ai=S at*
 generalize S.map bw=E at*
 generalize c.sz=z at*
 rw [<-DO];simp (maxSteps:=9^9) (disch:=omega) [-F,-H,-C,-I,-J,om,aa5];refine Wp.az (fun (i:ο)=>n-i) (fun i=> [K,M (Q U n),M (Q U u),M (φ 0 0),K,M (Q U i),K,K]) (fun _=> [π 26 [ν c.ln c.lz A1,ν c.bn c.bz A2,ν c.sn z E]]) (fun i=>wK u (S.take n) 0=wK u ((S.take n).drop i) i/\i<=n) ?_ 0 ⟨by simp,by omega⟩ (by simp) rfl;rintro i ⟨hi,Ă⟩;rw [hi];clear hi;by_cases h1:i<n
 ·have h2:i<Ê S:=by omega
  have ą:=hg i h2;obtain rfl:=hz (ne_of_lt h2);have h3:i<(S.take n).length:=by simp;omega
  rw [W h3];simp only [wK,List.getElem_take];generalize S[i]=x at*
  clear hg;by_cases he:x.unit=u
  ·subst he;simp (maxSteps:=9^9) (disch:=omega) [-F,-H,-C,-I,-J,om,h1,ą,Ā]
  ·have ė:(x.unit==u)=false:=by simpa using he
   simp (maxSteps:=9^9) (disch:=omega) [-F,-H,-C,-I,-J,om,h1,ą,Ā,he,ė];exact ⟨i+1,⟨rfl,by omega⟩,by omega,by simp⟩
 ·rw [O (by simp;omega)];simp (maxSteps:=9^9) (disch:=omega) [-F,-H,-C,-I,-J,om,h1,wK]
theorem IC (nl:μ Φ) (z:ο) (L:κ Int) (hz:L≠ []->z=1) (hL:Ê L<1000000) (u:Int):ar cfg 70 [ν nl z (dq L),Q U u] []=M (Ι (vp L u), []):=by
 refine aa aed aa6 ?_;have hg: ∀i (h:i<Ê L),(dq L)[i]?=M (Q U L[i]):=fun i h=>get_map _ _ h;have Ā:=Ad L;generalize dq L=E at*
 simp (maxSteps:=9^9) (disch:=omega) [-F,-H,-C,-I,-J,om,aa7];refine Wp.az (fun (i:ο)=>Ê L-i) (fun i=> [M (ν nl z E),M (Q U u),K,M (Q U i),K,K]) (fun _=> []) (fun i=>vp L u=vp (L.drop i) u/\i<=Ê L) ?_ 0 ⟨by simp,by omega⟩ (by simp) rfl;rintro i ⟨hi,Ă⟩;rw [hi];clear hi;by_cases h1:i<Ê L
 ·have ą:=hg i h1;obtain rfl:=hz (ne_of_lt h1);rw [W h1];generalize L[i]=x at*
  clear hg;by_cases he:x=u
  ·subst he;simp (maxSteps:=9^9) (disch:=omega) [-F,-H,-C,-I,-J,om,h1,ą,Ā,vp]
  ·have ė:(x==u)=false:=by simpa using he
   have Ŝ:(u==x)=false:=by simpa using Ne.symm he
   simp (maxSteps:=9^9) (disch:=omega) [-F,-H,-C,-I,-J,om,h1,ą,Ā,he,ė,Ŝ,vp];exact ⟨i+1,⟨rfl,by omega⟩,by omega,by simp⟩
 ·rw [O (by omega)];simp (maxSteps:=9^9) (disch:=omega) [-F,-H,-C,-I,-J,om,h1,Ā,vp]
theorem ur (c:Ct) (hc:c.ok) (o:μ ο) (ho: ∀j,o=M j->j<c.ai.length):ar cfg 71 [br c,Q U (aJ o)] []=M (ν K 1 (dq (ij c.ai o)), []):=by
 refine aa aee aa8 ?_;have hz:=hc.sz;have hl:=hc.sl;have hg:=fun i (h:i<c.ai.length)=>gQ c.ai h;have Ā:=bW bw c.ai;have hx:=fun n hn u=>jW c hc n hn u;unfold br dm at*
 generalize c.av.map dc=A2 at*
 generalize au c.ad=A1 at*
 generalize c.ai=S at*
 generalize S.map bw=E at*
 generalize c.sz=z at*
 simp (maxSteps:=9^9) (disch:=omega) [-F,-H,-C,-I,-J,om,aa9]
 refine Wp.az (fun (a:μ ο×κ Int)=>(aJ a.1+1).toNat) (fun a=> [K,M (Q U (aJ a.1)),M (φ 0 0),K,M (ύ 1 a.2.length),K,K,K,K,K]) (fun a=> [π 26 [ν c.ln c.lz A1,ν c.bn c.bz A2,ν c.sn z E],ϋ ⟨ξ,M 3,K⟩ 1 (dq a.2)])
  (fun a=>ij S o=a.2++ij S a.1/\(∀j,a.1=M j->j<Ê S)/\(a.2.length:Int)+aJ a.1<1000000) ?_ (o, []) ⟨by simp,ho,by
   cases o with
   | none=>simp [aJ]
   | some j=>have:=ho j rfl;simp [aJ];omega⟩ (by simp) (by simp [dq])
 rintro ⟨p,out⟩ ⟨hi,hp,Ń⟩;simp only at hi hp Ń⊢;rw [hi];clear hi ho;cases p with
 | none=>simp (maxSteps:=9^9) (disch:=omega) [-F,-H,-C,-I,-J,om,aJ,ij,dq]
 | some j=>
  have h1:=hp j rfl;have ą:=hg j h1;have hxi:=hx j (by omega);obtain rfl:=hz (ne_of_lt h1)
  have ī:ij S (M j)=S[j].unit::(if S[j].par=0 then [] else ij S (aL (S.take j) S[j].par)):=by show chain S j=_;rw [da (γ h1)];rfl
  rw [ī]
  have hq: ∀u k,aL (S.take j) u=M k->k<j:=fun u k h=>by
   have:=cN h;simp at this;omega
  generalize S[j]=x at*
  clear hg hx ī hp;simp only [aJ] at Ń;by_cases he:x.par=0
  ·simp (maxSteps:=9^9) (disch:=omega) [-F,-H,-C,-I,-J,om,aJ,ą,Ā,he,ab,dq]
  ·have ė:(x.par==0)=false:=by simpa using he
   have hxj:=hxi x.par;have Ų:=hq x.par;generalize aL (S.take j) x.par=q at*
   simp (maxSteps:=9^9) (disch:=omega) [-F,-H,-C,-I,-J,om,aJ,ą,Ā,he,ė,hxj,ab,dq];refine ⟨q,out++ [x.unit],⟨by simp,fun k hk=>by have:=Ų k hk;omega,?_⟩,?_,⟨rfl,by simp⟩,by simp⟩
   ·cases q with
    | none=>simp;omega
    | some k=>have:=Ų k rfl;simp;omega
   ·cases q with
    | none=>simp;omega
    | some k=>have:=Ų k rfl;simp;omega
theorem DA (c:Ct) (hc:c.ok) (s:ae):ar cfg 122 [br c,η s] []=M (ν K 1 (au (aw c.ad s)), []):=by
 refine aa aba Wl ?_;have hz:=hc.lz;have hl:=hc.ll;unfold br dm aw;generalize c.av.map dc=A2 at*
 generalize c.ai.map bw=A3 at*
 generalize c.ad=L at*
 generalize c.lz=z at*
 simp (maxSteps:=9^9) (disch:=omega) [-F,-H,-C,-I,-J,om,Tm]
 refine Wp.az (fun (a:ο×κ ae)=>Ê L-a.1) (fun a=> [K,M (η s),M (φ 0 0),K,M (ύ 1 a.2.length),M (Q U a.1),K,K,K,K,K]) (fun a=> [π 26 [ν c.ln z (au L),ν c.bn c.bz A2,ν c.sn c.sz A3],ϋ ⟨ξ,M 9,K⟩ 1 (au a.2)])
  (fun a=>s::L.filter (fun x=> !(x==s))=a.2++(L.drop a.1).filter (fun x=> !(x==s))/\a.1<=Ê L/\a.2.length<=a.1+1) ?_ (0, [s]) ⟨by simp,by simp,by simp⟩ (by simp) (by simp [au])
 rintro ⟨i,out⟩ ⟨hi,Ă,Ĉ⟩;simp only at hi Ă Ĉ⊢;rw [hi];clear hi;by_cases h1:i<Ê L
 ·have hg:=my L h1;obtain rfl:=hz (ne_of_lt h1);rw [DL L h1,List.filter_cons];generalize L.getD i []=x at*
  cases he:x==s with
  | true=>simp (maxSteps:=9^9) (disch:=omega) [-F,-H,-C,-I,-J,om,h1,hg,he];exact ⟨i+1,out,⟨rfl,by omega,by omega⟩,by omega,⟨rfl,by simp⟩,rfl⟩
  | false=>simp (maxSteps:=9^9) (disch:=omega) [-F,-H,-C,-I,-J,om,h1,hg,he,ab,Mb];exact ⟨i+1,out++ [x],⟨by simp,by omega,by simp;omega⟩,by omega,⟨by simp,by simp⟩,by simp [au]⟩
 ·rw [O (by omega)];simp (maxSteps:=9^9) (disch:=omega) [-F,-H,-C,-I,-J,om,h1]
def vq (el:Int) (lang:ae):κ Fc->μ ο
 | []=>K
 | f::r=>if f.el=el/\f.lang=lang then M 0 else (vq el lang r).map (· +1)
def wG (el:Int) (lang:ae):κ Fc->ο->Int
 | [],_=> -1
 | f::r,i=>if f.el=el/\f.lang=lang then (i:Int) else wG el lang r (i+1)
theorem Gq (el:Int) (lang:ae): ∀(l:κ Fc) (i:ο),wG el lang l i=match vq el lang l with | some k=>((i+k:ο):Int) | none=> -1
 | [],_=>rfl
 | f::r,i=>by
  unfold wG vq;by_cases h:f.el=el/\f.lang=lang
  ·rw [Z h,Z h];simp
  ·rw [δ h,δ h,Gq el lang r (i+1)];cases vq el lang r with
   | none=>rfl
   | some k=>simp only [Ε];congr 1;omega
theorem BM (el:Int) (lang:ae): ∀(l:κ Fc),(match vq el lang l with | some k=>k<Ê l/\jH l el lang=l[k]? | none=>jH l el lang=K)
 | []=>rfl
 | f::r=>by
  have ih:=BM el lang r;unfold vq;by_cases h:f.el=el/\f.lang=lang
  ·rw [Z h];refine ⟨by simp,?_⟩;unfold jH;rw [Λ (by simp [h.1,h.2])];rfl
  ·rw [δ h]
   have hf:jH (f::r) el lang=jH r el lang:=by unfold jH;rw [ψ (by simpa using h)]
   cases hx:vq el lang r with
   | none=>rw [hx] at ih;simp only [Ν];rw [hf];exact ih
   | some k=>rw [hx] at ih;simp only [Ε,ζ,Κ];exact ⟨by omega,by rw [hf];exact ih.2⟩
theorem OT (nl:μ Φ) (z:ο) (l:κ Fc) (hz:l≠ []->z=3) (hl:Ê l<1000000) (el:Int) (lang:ae):ar cfg 170 [ν nl z (l.map dQ),Q U el,η lang] []=M (Q U (aJ (vq el lang l)), []):=by
 refine aa abb Wm ?_
 have hn:aJ (vq el lang l)=wG el lang l 0:=by rw [Gq];cases vq el lang l <;> simp [aJ]
 rw [hn];have hE:=PB l;have Ā:=bW dQ l;generalize l.map dQ=E at*
 simp (maxSteps:=9^9) (disch:=omega) [-F,-H,-C,-I,-J,om,Tn];refine Wp.az (fun (i:ο)=>Ê l-i) (fun i=> [M (ν nl z E),M (Q U el),M (η lang),K,M (Q U i),K,K]) (fun _=> []) (fun i=>wG el lang l 0=wG el lang (l.drop i) i/\i<=Ê l) ?_ 0 ⟨by simp,by omega⟩ (by simp) rfl;rintro i ⟨hi,Ă⟩;rw [hi];clear hi;by_cases h1:i<Ê l
 ·have hg:=hE i h1;obtain rfl:=hz (ne_of_lt h1);rw [W h1];simp only [wG];generalize l[i]=x at*
  clear hE;by_cases e1:x.el=el
  ·by_cases e2:x.lang=lang
   ·simp (maxSteps:=9^9) (disch:=omega) [-F,-H,-C,-I,-J,om,h1,hg,Ā,e1,e2]
   ·have e2':(x.lang==lang)=false:=by simpa using e2
    simp (maxSteps:=9^9) (disch:=omega) [-F,-H,-C,-I,-J,om,h1,hg,Ā,e1,e2,e2'];exact ⟨i+1,⟨rfl,by omega⟩,by omega,by simp⟩
  ·have e1':(x.el==el)=false:=by simpa using e1
   simp (maxSteps:=9^9) (disch:=omega) [-F,-H,-C,-I,-J,om,h1,hg,Ā,e1,e1'];exact ⟨i+1,⟨rfl,by omega⟩,by omega,by simp⟩
 ·rw [O (by omega)];simp (maxSteps:=9^9) (disch:=omega) [-F,-H,-C,-I,-J,om,h1,Ā,wG]
theorem J5 (nl:μ Φ) (z:ο) (l:κ Fc) (hz:l≠ []->z=3) (hl:Ê l<1000000) (order:κ ae) (ho:order.length<1000000):
  ar cfg 121 [ν nl z (l.map dQ),ν K 1 (au order)] []=M (ν K 3 ((cB order l).map dQ), []):=by
 refine aa abc Wn ?_;have hE:=PB l;have Ā:=bW dQ l;have hf:=fun el lang=>OT nl z l hz hl el lang;generalize l.map dQ=E at*
 unfold cB;simp (maxSteps:=9^9) (disch:=omega) [-F,-H,-C,-I,-J,om,To]
 refine Wp.az (fun (a:ο×κ Fc)=>Ê l-a.1) (fun a=> [M (ν nl z E),M (ν K 1 (au order)),K,M (ύ 0 a.2.length),M (Q U a.1),K,K,K,K,K,K,K,K,K]) (fun a=> [ϋ ⟨ξ,M 76,K⟩ 3 (a.2.map dQ)])
  (fun a=>cz order l K l=a.2++cz order l (if a.1=0 then K else (l[a.1-1]?).map (·.el)) (l.drop a.1)/\a.1<=Ê l/\a.2.length<=a.1) ?_ (0, []) ⟨by simp,by simp,by simp⟩ (by simp) (by simp)
 rintro ⟨i,out⟩ ⟨hi,Ă,Ĉ⟩;simp only at hi Ă Ĉ⊢;rw [hi];clear hi;by_cases h1:i<Ê l
 ·have hg:=hE i h1;obtain rfl:=hz (ne_of_lt h1);rw [W h1];simp only [cz];have ę:(if i+1=0 then K else (l[i+1-1]?).map (·.el))=M l[i].el:=by simp [h1]
  have ŝ:i≠0-> ∃p,l[i-1]?=M p/\E[i-1]?=M (Α [Q U p.el,η p.lang,η p.text]):=fun h=>⟨l[i-1],γ (by omega),hE _ (by omega)⟩
  have Ě: ∀el lang,(match vq el lang l with | some k=> ∃f,jH l el lang=M f/\E[k]?=M (Α [Q U f.el,η f.lang,η f.text]) | none=>jH l el lang=K):=fun el lang=>by
   have:=BM el lang l;cases hx:vq el lang l with
   | none=>rw [hx] at this;exact this
   | some k=>rw [hx] at this;exact ⟨l[k],by rw [this.2,γ this.1],hE k this.1⟩
  generalize hx:l[i]=x at*
  by_cases hskip:(if i=0 then K else (l[i-1]?).map (·.el))=M x.el
  ·rw [Z hskip];by_cases hi0:i=0
   ·rw [Z hi0] at hskip;cases hskip
   obtain ⟨p,q1,q2⟩:=ŝ hi0;rw [δ hi0,q1] at hskip;have hpe:p.el=x.el:=by simpa using hskip
   have č:(0:Int)<(i:Int):=by omega
   have Đ:((i:Int)-1).toNat=i-1:=by omega
   clear hE hf Ě ŝ hskip;simp (maxSteps:=9^9) (disch:=omega) [-F,-H,-C,-I,-J,om,h1,hg,Ā,hi0,č,Đ,q2,hpe];refine ⟨i+1,out,⟨by rw [ę],by omega,by omega⟩,by omega,⟨rfl,by simp⟩,rfl⟩
  ·rw [δ hskip]
   have Ĭ:(¬ (0:Int)<(i:Int))\/ ∃p:Fc,(0:Int)<(i:Int)/\((i:Int)-1).toNat=i-1/\E[i-1]?=M (Α [Q U p.el,η p.lang,η p.text])/\(p.el==x.el)=ξ/\p.el≠x.el:=by
    by_cases hi0:i=0
    ·left;omega
    ·right;obtain ⟨p,q1,q2⟩:=ŝ hi0;rw [δ hi0,q1] at hskip;have hne:p.el≠x.el:=by simpa using hskip
     exact ⟨p,by omega,by omega,q2,by simpa using hne,hne⟩
   clear hE ŝ hskip;have ń:qU order l x.el=match order.findSome? (jH l x.el) with | some f=> [f] | none=> []:=rfl
   rw [ń];generalize hG:cz order l (M x.el) (l.drop (i+1))=G at*
   rcases Ĭ with g1 | ⟨p,g1,g2,g3,g4,g5⟩
   case' inl=>simp (maxSteps:=9^9) (disch:=omega) [-F,-H,-C,-I,-J,om,h1,hg,Ā,g1]
   case' inr=>simp (maxSteps:=9^9) (disch:=omega) [-F,-H,-C,-I,-J,om,h1,hg,Ā,g1,g2,g3,g4,g5]
   all_goals
    refine Wp.az (fun (k:ο)=>order.length-k) (fun k=> [M (ν nl 3 E),M (ν K 1 (au order)),K,M (ύ 0 (Ê out)),M (Q U i),M (Q U k),K,K,K,K,K,K,K,K]) (fun _=> [ϋ ⟨ξ,M 76,K⟩ 3 (out.map dQ)])
     (fun k=>order.findSome? (jH l x.el)=(order.drop k).findSome? (jH l x.el)/\k<=order.length) ?_ 0 ⟨by simp,by omega⟩ (by simp) rfl
    rintro k ⟨hk,ĭ⟩;rw [hk];clear hk;by_cases h2:k<order.length
    ·have Ą:=my order h2;rw [DL order h2,Ο];have hw:=hf x.el (order.getD k []);have hr:=Ě x.el (order.getD k []);generalize order.getD k []=lang at*
     cases hq:vq x.el lang l with
     | none=>rw [hq] at hw hr;simp only at hr;rw [hr];clear hf Ě;simp (maxSteps:=9^9) (disch:=omega) [-F,-H,-C,-I,-J,om,h1,h2,hg,Ą,hw,aJ];exact ⟨k+1,⟨rfl,by omega⟩,by omega,by simp⟩
     | some q=>rw [hq] at hw hr;obtain ⟨f,Ņ,ņ⟩:=hr;rw [Ņ];clear hf Ě;simp (maxSteps:=9^9) (disch:=omega) [-F,-H,-C,-I,-J,om,h1,h2,hg,Ą,hw,ņ,Ā,aJ,ab];exact ⟨i+1,out++ [f],⟨by rw [ę,hG];simp,by omega,by simp;omega⟩,by omega,⟨by simp,by simp⟩,by simp [dQ]⟩
    ·rw [O (by omega)];clear hf Ě;simp (maxSteps:=9^9) (disch:=omega) [-F,-H,-C,-I,-J,om,h2,Τ];exact ⟨i+1,out,⟨by rw [ę,hG],by omega,by omega⟩,by omega,⟨rfl,by simp⟩,rfl⟩
 ·rw [O (by omega)];simp (maxSteps:=9^9) (disch:=omega) [-F,-H,-C,-I,-J,om,h1,Ā,cz]
theorem BN (c:Ct) (hc:c.ok) (el:Int) (Į: -9223372036854775808<=el/\el<=9223372036854775807) (s:ae) (hb: ∀q∈c.av,q.text.length<1000000):ar cfg 123 [br c,Q U el,η s] []=M (η (jI (aw c.ad s) c.av el (cX ε el)), []):=by
 refine aa abd Wo ?_;have hp:=DA c hc s;have Ī:=hc.bz;have hbl:=hc.bl
 have Ĉ:(aw c.ad s).length<1000001:=by unfold aw;have:=υ (fun x=> !(x==s)) c.ad;have:=hc.ll;simp only [ζ];omega
 have Ċ:=bW dc c.av;have hE:=gE0 c.av;have hit:=σ el Į.1 Į.2;obtain ⟨hel1,hel2⟩:=Į;unfold jI cX;generalize aw c.ad s=order at*
 generalize hit2:ε el=it at*
 unfold br dm at*
 generalize c.av=B at*
 generalize c.bz=bz at*
 generalize B.map dc=E at*
 generalize c.ai.map bw=A3 at*
 generalize au c.ad=A1 at*
 simp (maxSteps:=9^9) (disch:=omega) [-F,-H,-C,-I,-J,om,Tp,hp];refine Wp.az (fun (k:ο)=>order.length-k) (fun k=> [K,M (Q U el),K,M (φ 0 0),K,M (ν K 1 (au order)),M (Q U k),K,K,K,K,K,K]) (fun _=> [π 26 [ν c.ln c.lz A1,ν c.bn bz E,ν c.sn c.sz A3]]) (fun k=>order.findSome? (m8 B el)=(order.drop k).findSome? (m8 B el)/\k<=order.length) ?_ 0 ⟨by simp,by omega⟩ (by simp) rfl;rintro k ⟨hk,ĭ⟩;rw [hk];clear hk;by_cases h1:k<order.length
 ·have Ą:=my order h1;rw [DL order h1,Ο];generalize order.getD k []=lang at*
  simp (maxSteps:=9^9) (disch:=omega) [-F,-H,-C,-I,-J,om,h1];refine Wp.az (fun (j:ο)=>Ê B-j) (fun j=> [K,M (Q U el),K,M (φ 0 0),K,M (ν K 1 (au order)),M (Q U k),M (Q U j),K,K,K,K,K]) (fun _=> [π 26 [ν c.ln c.lz A1,ν c.bn bz E,ν c.sn c.sz A3]]) (fun j=>m8 B el lang=m8 (B.drop j) el lang/\j<=Ê B) ?_ 0 ⟨by simp,by omega⟩ (by simp) rfl;rintro j ⟨hj,ģ⟩;rw [hj];clear hj;by_cases h2:j<Ê B
  ·have hg:=hE j h2;obtain rfl:=Ī (ne_of_lt h2);rw [W h2];generalize B[j]=x at*
   clear hE;by_cases e1:x.el=el
   ·by_cases e2:x.lang=lang
    ·have hf:m8 (x::B.drop (j+1)) el lang=M x.text:=by unfold m8;rw [Λ (by simp [e1,e2])];rfl
     rw [hf];simp (maxSteps:=9^9) (disch:=omega) [-F,-H,-C,-I,-J,om,h1,h2,hg,Ą,Ċ,e1,e2]
    ·have e2':(x.lang==lang)=false:=by simpa using e2
     have hf:m8 (x::B.drop (j+1)) el lang=m8 (B.drop (j+1)) el lang:=by unfold m8;rw [ψ (by simp [e2])]
     rw [hf];simp (maxSteps:=9^9) (disch:=omega) [-F,-H,-C,-I,-J,om,h1,h2,hg,Ą,Ċ,e1,e2,e2'];exact ⟨j+1,⟨rfl,by omega⟩,by omega,by simp⟩
   ·have e1':(x.el==el)=false:=by simpa using e1
    have hf:m8 (x::B.drop (j+1)) el lang=m8 (B.drop (j+1)) el lang:=by unfold m8;rw [ψ (by simp [e1])]
    rw [hf];simp (maxSteps:=9^9) (disch:=omega) [-F,-H,-C,-I,-J,om,h1,h2,hg,Ą,Ċ,e1,e1'];exact ⟨j+1,⟨rfl,by omega⟩,by omega,by simp⟩
  ·have hf:m8 (B.drop j) el lang=none:=by rw [O (by omega)];rfl
   rw [hf];simp (maxSteps:=9^9) (disch:=omega) [-F,-H,-C,-I,-J,om,h2,Ċ];exact ⟨k+1,⟨rfl,by omega⟩,by omega,by simp⟩
 ·rw [O (by omega)];simp (maxSteps:=9^9) (disch:=omega) [-F,-H,-C,-I,-J,om,h1,Τ,oL,hel1,hel2,hit2]
theorem BO (c:Ct) (hc:c.ok) (u:Int) (hb: ∀s∈c.ai,s.mark.length<1000000/\s.title.length<1000000):ar cfg 171 [br c,Q U u] []=M (η (cY c.ai u), []):=by
 refine aa abe Wq ?_;have hi:=jW c hc c.ai.length (ρ _) u;rw [θ] at hi;have Ā:=bW bw c.ai;unfold cY;cases hx:aL c.ai u with
 | none=>
  rw [hx] at hi;unfold br dm at*
  generalize au c.ad=L1 at*
  generalize c.av.map dc=L2 at*
  generalize c.ai.map bw=L3 at*
  simp (maxSteps:=9^9) (disch:=omega) [-F,-H,-C,-I,-J,om,J6,hi,Ā,aJ]
 | some i=>
  rw [hx] at hi;have hl:=cN hx;have hg:=gQ c.ai hl;have hgo:c.ai[i]?=M c.ai[i]:=γ hl;have Ę:=hc.sz (ne_of_lt hl);obtain ⟨b1,b2⟩:=hb _ (ι hl);have Ă:i<1000000:=by have:=hc.sl;omega
  simp only [hgo];unfold br dm at*
  generalize c.ai[i]=x at*
  generalize au c.ad=L1 at*
  generalize c.av.map dc=L2 at*
  generalize c.ai.map bw=L3 at*
  rw [Ę] at*
  by_cases hm:x.mark= []
  ·simp (maxSteps:=9^9) (disch:=omega) [-F,-H,-C,-I,-J,om,J6,hi,Ā,aJ,hg,hm]
  ·simp (maxSteps:=9^9) (disch:=omega) [-F,-H,-C,-I,-J,om,J6,hi,Ā,aJ,hg,hm]
theorem qE {l:κ Sh}: ∀i,(chain l i).length<=i+1:=by
 intro i
 induction i using ώ with
 | _ i ih=>
  cases hs:l[i]? with
  | none=>
   rw [chain];split
   ·simp
   ·rename_i s h;rw [hs] at h;cases h
  | some s=>
   rw [da hs];split
   ·simp
   ·cases hx:aL (l.take i) s.par with
    | none=>simp
    | some j=>have:=cN hx;simp only [Γ] at this;have:=ih j (by omega);simp only [ζ];omega
theorem Wr (c:Ct) (hc:c.ok) (i:ο) (hi:i<c.ai.length):ar cfg 119 [br c,Q U i] []=M (Q U (tX c.ad c.ai i c.ai[i]), []):=by
 refine aa abf Ws ?_;have Ę:=hc.sz (ne_of_lt hi);have hsl:=hc.sl;have hg:=gQ c.ai hi;have Ā:=bW bw c.ai;have Ć:=hc.sh _ (ι hi);have x1:=jW c hc i (by omega) c.ai[i].unit;have x2:=jW c hc i (by omega) c.ai[i].par;have x3:=ur c hc (M (i-1)) (fun j h=>by cases h;omega);have x4:=ur c hc (aL (c.ai.take i) c.ai[i].par) (fun j h=>by have:=cN h;simp at this;omega);have x5:=OR c hc c.ai[i].fn c.ai[i].fz c.ai[i].facts Ć.fz Ć.fl;have x6:=IC K 1 (chain c.ai (i-1)) (fun _=>rfl) (by have:=qE (l:=c.ai) (i-1);omega) c.ai[i].par
 have ě:(ij c.ai (aL (c.ai.take i) c.ai[i].par)).length<1000000:=by
  cases hx:aL (c.ai.take i) c.ai[i].par with
  | none=>simp [ij]
  | some j=>have:=cN hx;simp at this;have:=qE (l:=c.ai) j;simp only [ij];omega
 have hE1:kY (c.ai.take i) c.ai[i]=if c.ai[i].unit<1\/1073741824<c.ai[i].unit\/c.ai[i].level<1\/4<c.ai[i].level then 2 else
  if 64<c.ai[i].mark.length\/c.ai[i].title.length<1\/64<c.ai[i].title.length then 4 else if (aL (c.ai.take i) c.ai[i].unit).isSome=Θ then 6 else 0:=rfl
 have hP:iM c.ai i c.ai[i]=if c.ai[i].par=0 then M 0 else if i=0 then K else if vp (chain c.ai (i-1)) c.ai[i].par=Θ then M (ij c.ai (aL (c.ai.take i) c.ai[i].par)).length else none:=by unfold iM;rw [xn];congr 1;congr 1;cases aL (c.ai.take i) c.ai[i].par <;> rfl
 have hs0:0<=aJ (aL (c.ai.take i) c.ai[i].unit)↔(aL (c.ai.take i) c.ai[i].unit).isSome=true:=by cases aL (c.ai.take i) c.ai[i].unit <;> simp [aJ]
 have hS:tX c.ad c.ai i c.ai[i]=if kY (c.ai.take i) c.ai[i]=0 then (match iM c.ai i c.ai[i] with | none=>7 | some k=>if 12<=k then 15 else k9 c.ad c.ai[i].facts) else kY (c.ai.take i) c.ai[i]:=rfl;rw [hP,hE1] at hS;simp only [ij] at x3;generalize tX c.ad c.ai i c.ai[i]=R at*
 generalize k9 c.ad c.ai[i].facts=fe at*
 generalize hCH:ij c.ai (aL (c.ai.take i) c.ai[i].par)=CH at*
 generalize aL (c.ai.take i) c.ai[i].unit=iu at*
 generalize aL (c.ai.take i) c.ai[i].par=ip at*
 generalize chain c.ai (i-1)=C1 at*
 clear hP hE1 Ć hCH;unfold br dm at*
 generalize c.ai[i]=x at*
 generalize c.ai.map bw=L3 at*
 generalize au c.ad=L1 at*
 generalize c.av.map dc=L2 at*
 rw [Ę] at*
 have Ĝ:x.title= []↔x.title.length=0:=by simp
 generalize aJ iu=ni at*
 generalize aJ ip=np at*
 simp only [<-hs0] at hS;by_cases Ľ:x.par=0
 ·rw [Z Ľ] at hS;simp only [show¬ (12:ο)<=0 by decide,if_false] at hS;replace hS:=fun _:Unit=>hS;simp (maxSteps:=9^9) (disch:=omega) [-F,-H,-C,-I,-J,om,Gr,hg,Ā,hi,ab,x1,x5,Ľ];replace hS:=hS ();simp only [Ĝ]
  intros
  repeat' split
  all_goals omega
 ·rw [δ Ľ] at hS;by_cases hi0:i=0
  ·rw [Z hi0] at hS;simp only at hS;have č:((i:Int)==0)=true:=by rw [ϑ];omega
   have Đ:((i:Int)=0)=True:=eq_true (by omega);have Ş:(i=0)=True:=eq_true hi0;replace hS:=fun _:Unit=>hS;simp (maxSteps:=9^9) (disch:=omega) [-F,-H,-C,-I,-J,om,Gr,hg,Ā,hi,ab,x1,x5,Ľ,č,Đ,Ş];replace hS:=hS ();simp only [Ĝ]
   intros
   repeat' split
   all_goals omega
  ·rw [δ hi0] at hS;have č:((i:Int)==0)=false:=by rw [Η];omega
   have Đ:(i:Int)≠0:=by omega
   have Ģ:aJ (M (i-1))=(i:Int)-1:=by simp [aJ];omega
   rw [Ģ] at x3;cases hb:vp C1 x.par with
   | false=>
    rw [hb] at x6 hS;simp only [Bool.false_eq_true,if_false] at hS;replace hS:=fun _:Unit=>hS;simp (maxSteps:=9^9) (disch:=omega) [-F,-H,-C,-I,-J,om,Gr,hg,Ā,hi,ab,x1,x2,x3,x4,x5,x6,Ľ,hi0,č,Đ];replace hS:=hS ();simp only [Ĝ]
    intros
    repeat' split
    all_goals omega
   | true=>
    rw [hb] at x6 hS;simp only [if_true] at hS;replace hS:=fun _:Unit=>hS;simp (maxSteps:=9^9) (disch:=omega) [-F,-H,-C,-I,-J,om,Gr,hg,Ā,hi,ab,x1,x2,x3,x4,x5,x6,Ľ,hi0,č,Đ];replace hS:=hS ();simp only [Ĝ];by_cases h12:12<=Ê CH
    ·rw [Z h12] at hS
     intros
     repeat' split
     all_goals omega
    ·rw [δ h12] at hS
     intros
     repeat' split
     all_goals omega
theorem qF (c:Ct) (hc:c.ok):ar cfg 67 [br c] []=M (Q U (dU c), []):=by
 refine aa aef abg ?_;have h1:=LN c.ln c.lz c.ad hc.lz hc.ll;have h2:=OP c hc;have h3:=fun i hi=>Wr c hc i hi;have Ā:=bW bw c.ai;unfold dU;rw [Fy];unfold QU;unfold br dm at*
 generalize lQ c.ad=e1 at*
 generalize qN c.ad c.av=e2 at*
 generalize hL:c.ad=L at*
 generalize au L=L1 at*
 generalize c.av.map dc=L2 at*
 generalize c.ai=S at*
 generalize S.map bw=L3 at*
 by_cases g1:e1=0
 case neg=>simp (maxSteps:=9^9) (disch:=omega) [-F,-H,-C,-I,-J,om,OU,h1,g1]
 rw [Z g1];by_cases g2:e2=0
 case neg=>simp (maxSteps:=9^9) (disch:=omega) [-F,-H,-C,-I,-J,om,OU,h1,g1,h2,g2]
 rw [Z g2];by_cases g3:256<Ê S
 case pos=>simp (maxSteps:=9^9) (disch:=omega) [-F,-H,-C,-I,-J,om,OU,h1,g1,h2,g2,g3,Ā]
 rw [δ g3];simp (maxSteps:=9^9) (disch:=omega) [-F,-H,-C,-I,-J,om,OU,h1,g1,h2,g2,g3,Ā];refine Wp.az (fun (i:ο)=>Ê S-i) (fun i=> [K,M (φ 0 0),K,K,K,M (Q U i),K,K,K,K,K,K,K,K,K]) (fun _=> [π 26 [ν c.ln c.lz L1,ν c.bn c.bz L2,ν c.sn c.sz L3]]) (fun i=>l8 L S 0 S=l8 L S i (S.drop i)/\i<=Ê S) ?_ 0 ⟨by simp,by omega⟩ (by simp) rfl;rintro i ⟨hi,Ă⟩;rw [hi];clear hi;by_cases q1:i<Ê S
 ·have hw:=h3 i q1;rw [W q1];simp only [l8];generalize tX L S i S[i]=e at*
  by_cases q2:e=0
  ·rw [Z q2];simp (maxSteps:=9^9) (disch:=omega) [-F,-H,-C,-I,-J,om,q1,Ā,hw,q2];exact ⟨i+1,⟨rfl,by omega⟩,by omega,by simp⟩
  ·rw [δ q2];simp (maxSteps:=9^9) (disch:=omega) [-F,-H,-C,-I,-J,om,q1,Ā,hw,q2]
 ·rw [O (by omega)];simp (maxSteps:=9^9) (disch:=omega) [-F,-H,-C,-I,-J,om,q1,Ā,l8]
theorem xo (lev:Int) (h1:1<=lev) (h4:lev<=4):ar cfg 84 [Q U lev] []=M (η (ec lev), []):=by
 refine aa aeg abh ?_;have:lev=1\/lev=2\/lev=3\/lev=4:=by omega
 rcases this with rfl | rfl | rfl | rfl <;> simp (maxSteps:=9^9) (disch:=omega) [-F,-H,-C,-I,-J,om,abi,ec]
theorem BP (s:ae) (hs:Ê s<1000000):ar cfg 83 [η s] []=M (Q U (aY s), []):=by
 refine aa aeh abj ?_;simp (maxSteps:=9^9) (disch:=omega) [-F,-H,-C,-I,-J,om,abk];refine Wp.az (fun (a:ο×ο)=>Ê s-a.1) (fun a=> [M (η s),K,M (Q U a.2),M (Q U a.1),K,K]) (fun _=> []) (fun a=>aY s=a.2+aY (s.drop a.1)/\a.1<=Ê s/\a.2<=a.1) ?_ (0,0) ⟨by simp,by simp,by simp⟩ (by simp) rfl;rintro ⟨i,n⟩ ⟨hi,Ă,hn⟩;simp only at hi Ă hn⊢;rw [hi];clear hi;by_cases h1:i<Ê s
 ·have hg:s[i]?=M (s.getD i 0):=by simp [C,h1]
  have hd:=DU s h1;by_cases hc:s.getD i 0=46
  ·have hq:aY (s.drop i)=1+aY (s.drop (i+1)):=by rw [hd,hc];unfold aY;rw [List.count_cons_self];omega
   rw [hc] at hg;simp (maxSteps:=9^9) (disch:=omega) [-F,-H,-C,-I,-J,om,h1,hg,aq];exact ⟨i+1,n+1,⟨by omega,by omega,by omega⟩,by omega,by simp,by simp⟩
  ·have Ň: ¬ (((s.getD i 0).toNat:Int)=46):=fun h=>hc (UInt8.toNat_inj.mp (by show _=46;omega));have hq:aY (s.drop i)=aY (s.drop (i+1)):=by rw [hd];unfold aY;rw [List.count_cons_of_ne (by simpa using hc)]
   generalize s.getD i 0=c at*
   have hc3:((c.toNat:Int)==46)=false:=by simpa using Ň
   simp (maxSteps:=9^9) (disch:=omega) [-F,-H,-C,-I,-J,om,h1,hg,aq,Ň,hc3];exact ⟨i+1,n,⟨by omega,by omega,by omega⟩,by omega,by simp,by simp⟩
 ·rw [O (by omega)];simp (maxSteps:=9^9) (disch:=omega) [-F,-H,-C,-I,-J,om,h1,aY]
theorem qG (s:ae) (hs:Ê s<1000000):ar cfg 128 [η s] []=M (qI (ao s), []):=by
 refine aa abl Wt ?_;unfold ao;by_cases h3:Ê s<3
 ·rw [Z (.inl h3)];simp (maxSteps:=9^9) (disch:=omega) [-F,-H,-C,-I,-J,om,BQ,h3,qI]
 have hg: ∀i,i<Ê s->s[i]?=M (s.getD i 0):=fun i h1=>by simp [C,h1]
 have g0:=hg 0 (by omega);have g1:=hg 1 (by omega);by_cases c0:s.getD 0 0=91
 case neg=>
  rw [Z (.inr (.inl c0))];have c0': ¬ (((s.getD 0 0).toNat:Int)=91):=fun h=>c0 (UInt8.toNat_inj.mp (by show _=91;omega));generalize s.getD 0 0=x0 at*
  have c0b:((x0.toNat:Int) !=91)=true:=by simpa using c0'
  simp (maxSteps:=9^9) (disch:=omega) [-F,-H,-C,-I,-J,om,BQ,h3,qI,g0,aq,c0',c0b]
 by_cases c1:49<=(s.getD 1 0).toNat/\(s.getD 1 0).toNat<=57
 case neg=>
  rw [Z (.inr (.inr c1))];have c1':((s.getD 1 0).toNat:Int)<49\/57<((s.getD 1 0).toNat:Int):=by omega
  rw [c0] at g0;generalize s.getD 1 0=x1 at*
  by_cases q:x1.toNat<49
  ·simp (maxSteps:=9^9) (disch:=omega) [-F,-H,-C,-I,-J,om,BQ,h3,qI,g0,g1,aq,q]
  ·have q2:57<x1.toNat:=by omega
   simp (maxSteps:=9^9) (disch:=omega) [-F,-H,-C,-I,-J,om,BQ,h3,qI,g0,g1,aq,q,q2]
 rw [δ (by rintro (h | h | h);exact h3 h;exact h c0;exact h c1)];rw [c0] at g0;obtain ⟨c2,c3⟩:=c1;generalize hP:ua (s.drop 1) 0 1=P at*
 have g1':=g1;generalize s.getD 1 0=x1 at g1 c2 c3;simp (maxSteps:=9^9) (disch:=omega) [-F,-H,-C,-I,-J,om,BQ,h3,g0,g1,aq,c2,c3];clear g1' c2 c3 c0;refine Wp.az (fun (a:ο×ο)=>Ê s-a.2) (fun a=> [M (η s),K,K,M (Q U a.1),M (Q U a.2),K,K,K,K]) (fun _=> []) (fun a=>P=ua (s.drop a.2) a.1 a.2/\a.2<=Ê s/\a.1<=1073741824) ?_ (0,1) ⟨hP.symm,by simp;omega,by simp⟩ (by simp) rfl;rintro ⟨n,i⟩ ⟨hi,Ă,hn⟩;simp only at hi Ă hn⊢;rw [hi];clear hi hP;by_cases h1:i<Ê s
 ·have ą:=hg i h1;have hd:=DU s h1;rw [hd];simp only [ua];generalize s.getD i 0=c at*
  clear hg;by_cases q1:48<=c.toNat
  ·by_cases q2:c.toNat<=57
   ·rw [Z ⟨q1,q2⟩];have w1:IntKind.u8.wrap ((c.toNat:Int)-48)=(c.toNat:Int)-48:=by show ((c.toNat:Int)-48)%256=_;omega
    have w2:IntKind.i64.wrap ((c.toNat:Int)-48)=(c.toNat:Int)-48:=wrap_i64 (by omega) (by omega);have w3:IntKind.i64.wrap (10*(n:Int))=10*(n:Int):=wrap_i64 (by omega) (by omega);have w4:IntKind.i64.wrap (10*(n:Int)+((c.toNat:Int)-48))=10*(n:Int)+((c.toNat:Int)-48):=wrap_i64 (by omega) (by omega);by_cases q3:1073741824<10*n+(c.toNat-48)
    ·rw [Z q3];have q3':(1073741824:Int)<10*(n:Int)+((c.toNat:Int)-48):=by omega
     simp (maxSteps:=9^9) (disch:=omega) [-F,-H,-C,-I,-J,om,h1,ą,aq,q1,q2,w1,w2,w3,w4,q3',qI]
    ·rw [δ q3];have q3': ¬ (1073741824:Int)<10*(n:Int)+((c.toNat:Int)-48):=by omega
     simp (maxSteps:=9^9) (disch:=omega) [-F,-H,-C,-I,-J,om,h1,ą,aq,q1,q2,w1,w2,w3,w4,q3'];exact ⟨10*n+(c.toNat-48),i+1,⟨rfl,by omega,by omega⟩,by omega,by omega,by omega⟩
   ·rw [δ (fun h=>q2 h.2)];by_cases q4:c=93
    ·subst q4;simp (maxSteps:=9^9) (disch:=omega) [-F,-H,-C,-I,-J,om,h1,ą,aq,q1,q2,qI]
    ·have q5: ¬ ((c.toNat:Int)=93):=fun h=>q4 (UInt8.toNat_inj.mp (by show _=93;omega));have q6:((c.toNat:Int) !=93)=true:=by simpa using q5
     rw [δ q4];simp (maxSteps:=9^9) (disch:=omega) [-F,-H,-C,-I,-J,om,h1,ą,aq,q1,q2,q5,q6,qI]
  ·rw [δ (fun h=>q1 h.1)];have q5: ¬ ((c.toNat:Int)=93):=by omega
   have q6:((c.toNat:Int) !=93)=true:=by simpa using q5
   rw [δ (fun h=>by subst h;exact q1 (by decide))];simp (maxSteps:=9^9) (disch:=omega) [-F,-H,-C,-I,-J,om,h1,ą,aq,q1,q5,q6,qI]
 ·obtain rfl:i=Ê s:=by omega
  rw [O (by omega)];simp (maxSteps:=9^9) (disch:=omega) [-F,-H,-C,-I,-J,om,ua,qI]
theorem RH (c:Ct) (hc:c.ok) (hb: ∀s∈c.ai,s.mark.length<1000000/\s.title.length<1000000) (ě: ∀u,(cY c.ai u).length<=1000) (s:ae) (hs:Ê s<=10000):ar cfg 124 [br c,η s] []=M (η (bI (cY c.ai) s), []):=by
 refine aa abm Wu ?_;have w:=fun u=>BO c hc u hb;generalize cY c.ai=nm at*
 unfold br dm at*
 generalize au c.ad=L1 at*
 generalize c.av.map dc=L2 at*
 generalize c.ai.map bw=L3 at*
 simp (maxSteps:=9^9) (disch:=omega) [-F,-H,-C,-I,-J,om,Tq];refine Wp.az (fun (a:ae×ae)=>a.1.length) (fun a=> [K,M (η a.1),M (φ 0 0),K,M (η a.2),K,K,K,K,K,K]) (fun _=> [π 26 [ν c.ln c.lz L1,ν c.bn c.bz L2,ν c.sn c.sz L3]]) (fun a=>bI nm s=a.2++bI nm a.1/\a.1.length<=10000/\a.2.length<=1000*(10000-a.1.length)) ?_ (s, []) ⟨by simp,hs,by simp⟩ (by simp) rfl;rintro ⟨t,out⟩ ⟨hi,ċ,Ĉ⟩;simp only at hi ċ Ĉ⊢;rw [hi];clear hi;cases t with
 | nil=>simp (maxSteps:=9^9) (disch:=omega) [-F,-H,-C,-I,-J,om,jd]
 | cons x r=>
  have hp:=qG (x::r) (by omega);unfold qI at hp;have ĝ:(x::r).length=Ê r+1:=rfl;by_cases h0:(ao (x::r)).2=0
  ·rw [jO nm _ _ h0];rw [h0] at hp;generalize (ao (x::r)).1=p1 at*
   rw [ĝ] at ċ Ĉ;simp (maxSteps:=9^9) (disch:=omega) [-F,-H,-C,-I,-J,om,hp,ĝ];exact ⟨r,out++ [x],⟨by simp,by omega,by simp;omega⟩,by omega,by simp⟩
  ·rw [iU nm _ h0];obtain ⟨q1,q2,q3,q4,q5⟩:=(c7 (x::r)).resolve_left (fun h=>h0 (by rw [h]));obtain ⟨n,hn⟩: ∃n:ο,(ao (x::r)).2=n:=⟨(ao (x::r)).2.toNat,by omega⟩;rw [hn] at hp q3 q4 h0⊢;rw [ω];have w1:=w (ao (x::r)).1;have ň:=ě (ao (x::r)).1;generalize (ao (x::r)).1=p1 at*
   generalize nm p1=y at*
   have hne:(x::r)≠ []:=by simp
   generalize x::r=t at*
   have ş: ¬ (n:Int)=0:=h0;have į:n<=Ê t:=by omega
   have Ŋ:(t.drop n).length=Ê t-n:=by simp
   clear hn q1 q2 q5;simp (maxSteps:=9^9) (disch:=omega) [-F,-H,-C,-I,-J,om,hp,hne,ş,w1,į];exact ⟨t.drop n,out++y,⟨by simp,by omega,by simp;omega⟩,by omega,by simp⟩
theorem OV {l:κ Sh} {root:Int} {i:ο} {s:Sh} (hs:l[i]?=M s) (h:qt l root i=Θ):s.unit=root\/(s.unit≠root/\ ∃j,aL (l.take i) s.par=M j/\j<i/\qt l root j=Θ):=by
 unfold qt at h⊢;rw [da hs] at h;by_cases hu:s.unit=root
 ·exact .inl hu
 ·right;refine ⟨hu,?_⟩;rw [Ρ] at h;have h1:(root==s.unit)=false:=by simpa using Ne.symm hu
  rw [h1,ϔ] at h;split at h
  ·cases h
  ·cases hx:aL (l.take i) s.par with
   | none=>rw [hx] at h;cases h
   | some j=>rw [hx] at h;have:=cN hx;simp only [Γ] at this;exact ⟨j,rfl,by omega,h⟩
theorem Dw (p:ο->Φ): ∀n,uv p n<=n
 | 0=>ρ _
 | n+1=>by
  have:=Dw p n;rw [uv];split <;> omega
theorem OW {l:κ Sh} {root:Int} {i:ο} (hi:i<Ê l):jF ε l root i≠ []:=by rw [mY ε (γ hi)];split <;> simp
theorem Gs (c:Ct) (hc:c.ok) (root:Int): ∀(i:ο),qt c.ai root i=true->i<c.ai.length->
  ar cfg 120 [br c,Q U root,Q U i] []=M (η (jF ε c.ai root i), [])/\(jF ε c.ai root i).length<=30*(i+1):=by
 intro i
 induction i using ώ with
 | _ i ih=>
 intro hin Ă;have Ę:=hc.sz (ne_of_lt Ă);have hsl:=hc.sl;have hg:=gQ c.ai Ă;have Ą:=fun k (h:k<c.ai.length)=>gQ c.ai h;have Š: ∀k (h:k<c.ai.length),so c.ai c.ai[i].par k=decide (c.ai[k].par=c.ai[i].par):=fun k h=>by unfold so;rw [γ h]
 have Ā:=bW bw c.ai;have hn:=mY ε (root:=root) (γ Ă);have x2:=jW c hc i (by omega) c.ai[i].par;rcases OV (γ Ă) hin with hu | ⟨hu,j,hj,hji,hjin⟩
 ·rw [Z hu] at hn;rw [hn];refine ⟨?_,by simp;omega⟩;refine aa Ts OX ?_;clear Ą Š x2 ih;unfold br dm at*
  generalize c.ai[i]=x at*
  generalize au c.ad=L1 at*
  generalize c.av.map dc=L2 at*
  generalize c.ai.map bw=L3 at*
  rw [Ę] at*
  simp (maxSteps:=9^9) (disch:=omega) [-F,-H,-C,-I,-J,om,OY,hg,hu]
 ·rw [δ hu,hj] at hn;obtain ⟨y1,y2⟩:=ih j hji hjin (by omega);have ě:=Dw (so c.ai c.ai[i].par) (i+1);have hit:=σ (uv (so c.ai c.ai[i].par) (i+1):Int) (by omega) (by omega);rw [hj] at x2;rw [hn];simp only at*
  refine ⟨?_,by simp only [τ,ζ,χ];omega⟩;refine aa Ts OX ?_;clear ih hn;generalize hp:so c.ai c.ai[i].par=p at*
  generalize jF ε c.ai root j=nj at*
  have hu2:(c.ai[i].unit==root)=false:=by simpa using hu
  unfold br dm at*
  generalize c.ai[i]=x at*
  generalize au c.ad=L1 at*
  generalize c.av.map dc=L2 at*
  generalize hS:c.ai=S at*
  generalize S.map bw=L3 at*
  rw [Ę] at*
  simp (maxSteps:=9^9) (disch:=omega) [-F,-H,-C,-I,-J,om,OY,hg,hu,hu2];refine Wp.az (fun (k:ο)=>i+1-k) (fun k=> [K,M (Q U root),M (Q U i),M (φ 0 0),K,M (Q U (uv p k)),M (Q U k),K,K,K,K,K,K,K]) (fun _=> [π 26 [ν c.ln c.lz L1,ν c.bn c.bz L2,ν c.sn 6 L3]]) (fun k=>k<=i+1) ?_ 0 (by omega) (by simp [uv]) rfl;intro k hk;have hck:=Dw p k;by_cases h1:k<=i
  ·have ŋ:=Ą k (by omega);have hpk1:=Š k (by omega);have Ĭ:uv p (k+1)=uv p k+if p k=Θ then 1 else 0:=rfl;rw [hpk1] at Ĭ;generalize S[k]=y at*
   clear Ą Š;by_cases e:y.par=x.par
   ·rw [Z (by simpa using e)] at Ĭ;simp (maxSteps:=9^9) (disch:=omega) [-F,-H,-C,-I,-J,om,h1,hg,ŋ,Ā,Ă,e];exact ⟨k+1,by omega,by omega,by rw [Ĭ];simp,by simp⟩
   ·rw [δ (by simpa using e)] at Ĭ;have e2:(y.par==x.par)=false:=by simpa using e
    simp (maxSteps:=9^9) (disch:=omega) [-F,-H,-C,-I,-J,om,h1,hg,ŋ,Ā,Ă,e,e2];exact ⟨k+1,by omega,by omega,by rw [Ĭ];simp,by simp⟩
  ·obtain rfl:k=i+1:=by omega
   have İ: -9223372036854775808<=(uv p (i+1):Int):=by omega
   have ı:(uv p (i+1):Int)<=9223372036854775807:=by omega
   clear Ą Š;simp only [aJ] at x2;generalize hc1:uv p (i+1)=pl at*
   generalize hit2:ε (pl:Int)=it at*
   simp (maxSteps:=9^9) (disch:=omega) [-F,-H,-C,-I,-J,om,hg,Ā,Ă,x2,y1,oL,İ,ı,hit2]
theorem BR (c:Ct) (hc:c.ok) (lang:ae) (ī:ar cfg 67 [br c] []=M (Q U (dU c), [])):ar cfg 172 [br c,η lang] []=M (Ι (aO c lang), []):=by
 refine aa abn Wv ?_;have hh:=qD c.ln c.lz c.ad hc.lz hc.ll lang;unfold aO;unfold br dm at*
 generalize dU c=e at*
 generalize cD c.ad lang=b at*
 generalize au c.ad=L1 at*
 generalize c.av.map dc=L2 at*
 generalize c.ai.map bw=L3 at*
 by_cases h0:e=0
 ·simp (maxSteps:=9^9) (disch:=omega) [-F,-H,-C,-I,-J,om,OZ,ī,hh,h0]
 ·have h1:(e==0)=false:=by simpa using h0
  simp (maxSteps:=9^9) (disch:=omega) [-F,-H,-C,-I,-J,om,OZ,ī,hh,h0,h1]
theorem Ww {c:Ct} (hk:dU c=0):(∀s∈c.ai,s.mark.length<1000000/\s.title.length<1000000)/\(∀q∈c.av,q.text.length<1000000)/\ ∀u,(cY c.ai u).length<=1000:=by
 have h:=cj hk;have h1: ∀s∈c.ai,s.mark.length<=64/\s.title.length<=64:=fun s hs=>⟨(h.ai s hs).mark,(h.ai s hs).wO⟩;refine ⟨fun s hs=>by have:=h1 s hs;omega,fun q hq=>by have:=(h.av q hq).len;omega,fun u=> ?_⟩;unfold cY;cases hx:aL c.ai u with
 | none=>simp
 | some i=>
  simp only;cases hs:c.ai[i]? with
  | none=>simp
  | some s=>
   have:=h1 s (List.mem_of_getElem? hs);simp only;split
   ·omega
   ·simp only [τ,ζ,χ];omega
theorem J7 (c:Ct) (hc:c.ok) (root u:Int):
  ar cfg 125 [br c,Q U root,Q U u] []=M (.aK (if dU c=0 then [η (eL ε c root u),Ι (decide (eL ε c root u≠ []))] else [η [],Ι ξ]), []):=by
 refine aa abo Wx ?_;have w1:=qF c hc;have w2:=jW c hc c.ai.length (ρ _) u;rw [θ] at w2;have Ā:=bW bw c.ai;by_cases hk:dU c=0
 case neg=>
  rw [δ hk];unfold br dm at*
  generalize dU c=e at*
  generalize au c.ad=L1 at*
  generalize c.av.map dc=L2 at*
  generalize c.ai.map bw=L3 at*
  simp (maxSteps:=9^9) (disch:=omega) [-F,-H,-C,-I,-J,om,Gt,w1,hk]
 rw [Z hk];rw [hk] at w1;obtain ⟨V,hV⟩: ∃V,V=eL ε c root u:=⟨_,rfl⟩;rw [<-hV];unfold eL at hV;cases hx:aL c.ai u with
 | none=>
  rw [hx] at w2 hV;simp only at hV;subst hV;unfold br dm at*
  generalize au c.ad=L1 at*
  generalize c.av.map dc=L2 at*
  generalize c.ai.map bw=L3 at*
  simp (maxSteps:=9^9) (disch:=omega) [-F,-H,-C,-I,-J,om,Gt,w1,w2,Ā,aJ]
 | some i=>
  rw [hx] at w2 hV;have hi:=cN hx;have w3:=ur c hc (M i) (fun j h=>by cases h;exact hi);have w4:=IC K 1 (chain c.ai i) (fun _=>rfl) (by have:=qE (l:=c.ai) i;have:=hc.sl;omega) root;have hb:vp (chain c.ai i) root=qt c.ai root i:=xn _ _;rw [hb] at w4;simp only [ij,aJ] at w3 w2 hV;have w5:=Gs c hc root i;have hne:=OW (root:=root) hi;cases hin:qt c.ai root i with
  | false=>
   rw [hin] at w4 hV;clear w5;rw [δ (by simp)] at hV;subst hV;unfold br dm at*
   generalize au c.ad=L1 at*
   generalize c.av.map dc=L2 at*
   generalize c.ai.map bw=L3 at*
   generalize chain c.ai i=CC at*
   simp (maxSteps:=9^9) (disch:=omega) [-F,-H,-C,-I,-J,om,Gt,w1,w2,w3,w4,Ā]
  | true=>
   obtain ⟨w6,_⟩:=w5 hin hi;rw [hin] at w4 hV;rw [Z rfl] at hV;rw [<-hV] at w6 hne;have hd:decide (V≠ [])=true:=by simpa using hne
   rw [hd];clear w5 hV;unfold br dm at*
   generalize au c.ad=L1 at*
   generalize c.av.map dc=L2 at*
   generalize c.ai.map bw=L3 at*
   generalize chain c.ai i=CC at*
   simp (maxSteps:=9^9) (disch:=omega) [-F,-H,-C,-I,-J,om,Gt,w1,w2,w3,w4,w6,Ā]
theorem Gu (c:Ct) (hc:c.ok) (u:Int) (s:ae): ∃nl z,ar cfg 126 [br c,Q U u,η s] []=M (ν nl z ((dP c u s).map dQ), [])/\(dP c u s≠ []->z=3):=by
 have w1:=BR c hc s (qF c hc);have w2:=jW c hc c.ai.length (ρ _) u;rw [θ] at w2;have Ā:=bW bw c.ai;unfold dP ep bT;cases hr:aO c s with
 | false=>
  rw [hr] at w1;refine ⟨M Θ,0,aa O0 ID ?_,by simp⟩;unfold br dm at*
  generalize au c.ad=L1 at*
  generalize c.av.map dc=L2 at*
  generalize c.ai.map bw=L3 at*
  simp (maxSteps:=9^9) (disch:=omega) [-F,-H,-C,-I,-J,om,J8,w1]
 | true=>
  rw [hr] at w1;rw [Z rfl];cases hx:aL c.ai u with
  | none=>
   rw [hx] at w2;refine ⟨M Θ,0,aa O0 ID ?_,by simp [cB,cz]⟩;simp only [cB,cz];unfold br dm at*
   generalize au c.ad=L1 at*
   generalize c.av.map dc=L2 at*
   generalize c.ai.map bw=L3 at*
   simp (maxSteps:=9^9) (disch:=omega) [-F,-H,-C,-I,-J,om,J8,w1,w2,Ā,aJ]
  | some i=>
   rw [hx] at w2;have hi:=cN hx;have hgo:c.ai[i]?=M c.ai[i]:=γ hi;have hg:=gQ c.ai hi;have Ę:=hc.sz (ne_of_lt hi);have Ć:=hc.sh _ (ι hi);have w3:=DA c hc s
   have Ĉ:(aw c.ad s).length<1000001:=by unfold aw;have:=υ (fun x=> !(x==s)) c.ad;have:=hc.ll;simp only [ζ];omega
   have hk:=cj (c5 hr).1
   have Ĵ:(aw c.ad s).length<1000000:=by unfold aw;have:=υ (fun x=> !(x==s)) c.ad;have:=hk.l2;simp only [ζ];omega
   have w4:=J5 c.ai[i].fn c.ai[i].fz c.ai[i].facts Ć.fz Ć.fl (aw c.ad s) Ĵ;simp only [hgo];refine ⟨K,3,aa O0 ID ?_,fun _=>rfl⟩;simp only [aJ] at w2;generalize (cB (aw c.ad s) c.ai[i].facts).map dQ=CA at*
   generalize aw c.ad s=order at*
   clear hk Ć Ĉ;unfold br dm at*
   generalize c.ai[i]=x at*
   generalize au c.ad=L1 at*
   generalize c.av.map dc=L2 at*
   generalize c.ai.map bw=L3 at*
   rw [Ę] at*
   simp (maxSteps:=9^9) (disch:=omega) [-F,-H,-C,-I,-J,om,J8,w1,w2,w3,w4,Ā,hg]
theorem LO (c:Ct) (hc:c.ok) (el:Int) (s:ae):ar cfg 130 [br c,Q U el,η s] []=M (η (if el<1\/64<el\/aO c s=ξ then [] else jI (aw c.ad s) c.av el (cX ε el)), []):=by
 refine aa abp Wy ?_;have w1:=BR c hc s (qF c hc);cases hr:aO c s with
 | false=>
  rw [hr] at w1;rw [Z (.inr (.inr rfl))];unfold br dm at*
  generalize au c.ad=L1 at*
  generalize c.av.map dc=L2 at*
  generalize c.ai.map bw=L3 at*
  simp (maxSteps:=9^9) (disch:=omega) [-F,-H,-C,-I,-J,om,Gv,w1]
 | true=>
  rw [hr] at w1;by_cases h1:el<1
  ·rw [Z (.inl h1)];unfold br dm at*
   generalize au c.ad=L1 at*
   generalize c.av.map dc=L2 at*
   generalize c.ai.map bw=L3 at*
   simp (maxSteps:=9^9) (disch:=omega) [-F,-H,-C,-I,-J,om,Gv,w1,h1]
  by_cases h2:64<el
  ·rw [Z (.inr (.inl h2))];unfold br dm at*
   generalize au c.ad=L1 at*
   generalize c.av.map dc=L2 at*
   generalize c.ai.map bw=L3 at*
   simp (maxSteps:=9^9) (disch:=omega) [-F,-H,-C,-I,-J,om,Gv,w1,h1,h2]
  rw [δ (by rintro (h | h | h);exact h1 h;exact h2 h;cases h)];have w2:=BN c hc el (by omega) s (Ww (c5 hr).1).2.1;generalize jI (aw c.ad s) c.av el (cX ε el)=r at*
  unfold br dm at*
  generalize au c.ad=L1 at*
  generalize c.av.map dc=L2 at*
  generalize c.ai.map bw=L3 at*
  simp (maxSteps:=9^9) (disch:=omega) [-F,-H,-C,-I,-J,om,Gv,w1,w2,h1,h2]
theorem LP (c:Ct) (hc:c.ok) (u:Int):ar cfg 131 [br c,Q U u] []=M (η (if dU c=0 then cY c.ai u else []), []):=by
 refine aa abq Wz ?_;have w1:=qF c hc;by_cases hk:dU c=0
 ·rw [Z hk];rw [hk] at w1;have w2:=BO c hc u (Ww hk).1;generalize cY c.ai u=r at*
  unfold br dm at*
  generalize au c.ad=L1 at*
  generalize c.av.map dc=L2 at*
  generalize c.ai.map bw=L3 at*
  simp (maxSteps:=9^9) (disch:=omega) [-F,-H,-C,-I,-J,om,O1,w1,w2]
 ·rw [δ hk];unfold br dm at*
  generalize dU c=e at*
  generalize au c.ad=L1 at*
  generalize c.av.map dc=L2 at*
  generalize c.ai.map bw=L3 at*
  simp (maxSteps:=9^9) (disch:=omega) [-F,-H,-C,-I,-J,om,O1,w1,hk]
set_option maxHeartbeats 8000000
theorem LQ (order:κ ae) (l:κ Fc) (el:Int):(qU order l el).length<=1:=by unfold qU;split <;> simp
theorem jX (order:κ ae) (l:κ Fc): ∀(r:κ Fc) (p:μ Int),(cz order l p r).length<=Ê r
 | [],_=>by simp [cz]
 | f::r,p=>by
  unfold cz;have h1:=jX order l r (M f.el);have h2:=LQ order l f.el;split
  ·simp only [ζ];omega
  ·simp only [τ,ζ];omega
theorem ik {order:κ ae} {l:κ Fc}: ∀{r:κ Fc} {p:μ Int} {f:Fc},f∈cz order l p r->f∈l
 | [],_,_,h=>by simp [cz] at h
 | x::r,p,f,h=>by
  unfold cz at h;split at h
  ·exact ik h
  ·rcases List.mem_append.1 h with h | h
   ·unfold qU at h;split at h
    ·rename_i g hg;rw [List.mem_singleton] at h;subst h;exact (l9 (order:=order) _ hg).1
    ·cases h
   ·exact ik h
theorem LR {order:κ ae} {av:κ Lb} (hb: ∀q∈av,q.text.length<1000000) (el:Int) (d:ae) (hd:Ê d<1000000):(jI order av el d).length<1000000:=by
 unfold jI;split
 ·rename_i t ht;obtain ⟨f,hf,rfl,_⟩:=jT order ht;exact hb f hf
 ·exact hd
theorem RI (c:Ct) (hc:c.ok) (hk:dU c=0) (root:Int) (i:ο) (hi:i<c.ai.length) (hin:qt c.ai root i=Θ) (lang:ae):
  ar cfg 72 [br c,Q U root,Q U i,η lang] []=M (cH (Dj ε (aw c.ad lang) c (c.ai[i],jF ε c.ai root i)), []):=by
 refine aa aei abr ?_;have hok:=cj hk;obtain ⟨Ō,ľ,hb3⟩:=Ww hk;have hg:=gQ c.ai hi;have Ā:=bW bw c.ai;have Ę:=hc.sz (ne_of_lt hi);have Ć:=hc.sh _ (ι hi);have Ł:=hok.ai _ (ι hi);obtain ⟨w1,į⟩:=Gs c hc root i hin hi;have hl256:c.ai.length<=256:=hok.G1;have w2:=BP (jF ε c.ai root i) (by omega);have w3:=xo c.ai[i].level Ł.l1 Ł.l2;have w4:=DA c hc lang
 have Ĵ:(aw c.ad lang).length<1000000:=by unfold aw;have:=υ (fun x=> !(x==lang)) c.ad;have:=hok.l2;simp only [ζ];omega
 have w5:=J5 c.ai[i].fn c.ai[i].fz c.ai[i].facts Ć.fz Ć.fl (aw c.ad lang) Ĵ;have w6:=fun el Į=>BN c hc el Į lang ľ;have w7:=fun t ht=>RH c hc Ō hb3 t ht;have ĵ: ∀f∈cB (aw c.ad lang) c.ai[i].facts,zZ c.ad f:=fun f hf=>Ł.facts f (ik hf);have š:(cB (aw c.ad lang) c.ai[i].facts).length<=32:=Χ (jX _ _ _ _) Ł.FG;have Ţ:=fun el=>LR (order:=aw c.ad lang) ľ el;generalize hnum:jF ε c.ai root i=num at*
 have Ĥ:(Dj ε (aw c.ad lang) c (c.ai[i],num)).nodes=⟨aY num,ec c.ai[i].level,num++32::c.ai[i].title⟩::(oP (aY num+1) c.ai[i]++(cB (aw c.ad lang) c.ai[i].facts).map (ss ε (aw c.ad lang) c (aY num+1))):=by simp [Dj]
 have hse:cH (Dj ε (aw c.ad lang) c (c.ai[i],num))= Α [Q U c.ai[i].unit,η num,ν K 3 ((Dj ε (aw c.ad lang) c (c.ai[i],num)).nodes.map dF)]:=rfl;rw [hse,Ĥ];have ţ: ∀f,ss ε (aw c.ad lang) c ((aY num:Int)+1) f=⟨(aY num:Int)+1, [112],jI (aw c.ad lang) c.av f.el (cX ε f.el)++58::32::bI (cY c.ai) f.text⟩:=fun f=>by simp [ss]
 have Ğ:=PB (cB (aw c.ad lang) c.ai[i].facts);have ł:=bW dQ (cB (aw c.ad lang) c.ai[i].facts);have Ť:=fun t=>oO hb3 t;generalize hFNd:ss ε (aw c.ad lang) c ((aY num:Int)+1)=FN at*
 generalize cB (aw c.ad lang) c.ai[i].facts=CH at*
 generalize CH.map dQ=CA at*
 generalize aw c.ad lang=order at*
 clear Ĥ hse hok Ō ľ hb3 Ć hFNd hnum hin;have ċ:=Ł.wO;clear Ł;have Ŋ:aY num<=Ê num:=Ξ;have hw:IntKind.i64.wrap ((aY num:Int)+1)=aY num+1:=wrap_i64 (by omega) (by omega);generalize bI (cY c.ai)=xp at*
 unfold br dm at*
 generalize c.ai[i]=x at*
 generalize au c.ad=L1 at*
 generalize c.av.map dc=L2 at*
 generalize c.ai.map bw=L3 at*
 rw [Ę] at*
 generalize x.facts.map dQ=FA at*
 generalize hNF:(⟨aY num,ec x.level,num++32::x.title⟩::(oP (aY num+1) x++CH.map FN):κ Nd)=NF at*
 by_cases hmk:x.mark= []
 ·rw [hmk] at hg;simp (maxSteps:=9^9) (disch:=omega) [-F,-H,-C,-I,-J,om,WA,hg,Ā,hi,w1,w2,w3,w4,w5,ab,ł]
  refine Wp.az (fun (a:ο×κ Nd)=>Ê CH-a.1) (fun a=> [K,K,K,M (η lang),M (φ 0 0),M (φ 1 0),K,K,M (Q U (aY num)),M (φ 5 0),M (ν K 3 CA),M (Q U a.1),K,K,K,K,K,K,K,K,K,K,K,K,K,K,K,K,K,K,K,K,K,K,K]) (fun a=> [π 26 [ν c.ln c.lz L1,ν c.bn c.bz L2,ν c.sn 6 L3],π 58 [Q U 0,η [],ύ 2 0],ϋ ⟨ξ,M 129,K⟩ 3 [],π 74 [Q U x.unit,Q U x.par,Q U x.level,η [],η x.title,ν x.fn x.fz FA],ϋ ⟨ξ,M 129,K⟩ 3 (a.2.map dF),π 58 [Q U x.unit,η num,ύ 4 a.2.length]])
   (fun a=>NF=a.2++(CH.drop a.1).map FN/\a.1<=Ê CH/\a.2.length<=a.1+2) ?_ (0, [⟨aY num,ec x.level,num++32::x.title⟩]) ⟨by simp [<-hNF,oP,hmk],by simp,by simp⟩ (by simp) (by simp [dF])
  rintro ⟨j,N⟩ ⟨hj,ģ,ō⟩;simp only at hj ģ ō⊢;rw [hj];by_cases h1:j<Ê CH
  ·have hgj:=Ğ j h1;have ĉ:=ĵ _ (ι h1);rw [W h1,Δ] at hj⊢;have Ķ:=ţ CH[j];have ķ:=bW dF N;have Cm:=ĉ.Cm;have GM:=ĉ.GM;have tl:=ĉ.len;have hn:=w6 CH[j].el (by omega);have hx:=w7 CH[j].text (by omega);have hxtl:=Ť CH[j].text;have hit:=σ CH[j].el (by omega) (by omega);have hnml:=Ţ CH[j].el (cX ε CH[j].el) (by unfold cX;simp;omega);clear Ğ ĵ ţ w6 w7 Ť Ţ hj hNF hit;generalize CH[j]=f at*
   generalize jI order c.av f.el (cX ε f.el)=nm at*
   generalize xp f.text=xt at*
   simp (maxSteps:=9^9) (disch:=omega) [-F,-H,-C,-I,-J,om,h1,hgj,ab,hn,hx,hw,ķ,ł];refine ⟨j+1,N++ [FN f],⟨by simp,by omega,by simp;omega⟩,by omega,?_⟩;exact ⟨by simp,by simp [dF,Ķ],by simp⟩
  ·rw [O (by omega),Μ,Ζ] at hj⊢;simp (maxSteps:=9^9) (disch:=omega) [-F,-H,-C,-I,-J,om,h1,ab,ł]
 ·simp (maxSteps:=9^9) (disch:=omega) [-F,-H,-C,-I,-J,om,WA,hg,Ā,hi,w1,w2,w3,w4,w5,ab,ł,hmk,hw]
  refine Wp.az (fun (a:ο×κ Nd)=>Ê CH-a.1) (fun a=> [K,K,K,M (η lang),M (φ 0 0),M (φ 1 0),K,K,M (Q U (aY num)),M (φ 5 0),M (ν K 3 CA),M (Q U a.1),K,K,K,K,K,K,K,K,K,K,K,K,K,K,K,K,K,K,K,K,K,K,K]) (fun a=> [π 26 [ν c.ln c.lz L1,ν c.bn c.bz L2,ν c.sn 6 L3],π 58 [Q U 0,η [],ύ 2 0],ϋ ⟨ξ,M 129,K⟩ 3 [],π 74 [Q U x.unit,Q U x.par,Q U x.level,η x.mark,η x.title,ν x.fn x.fz FA],ϋ ⟨ξ,M 129,K⟩ 3 (a.2.map dF),π 58 [Q U x.unit,η num,ύ 4 a.2.length],ϋ ⟨ξ,M 129,K⟩ 3 [Α [Q U ((aY num:Int)+1),η [109,97,114,107],η x.mark]],.dead])
   (fun a=>NF=a.2++(CH.drop a.1).map FN/\a.1<=Ê CH/\a.2.length<=a.1+2) ?_ (0, [⟨aY num,ec x.level,num++32::x.title⟩,⟨(aY num:Int)+1, [109,97,114,107],x.mark⟩]) ⟨by simp [<-hNF,oP,hmk],by simp,by simp⟩ (by simp) (by simp [dF])
  rintro ⟨j,N⟩ ⟨hj,ģ,ō⟩;simp only at hj ģ ō⊢;rw [hj];by_cases h1:j<Ê CH
  ·have hgj:=Ğ j h1;have ĉ:=ĵ _ (ι h1);rw [W h1,Δ] at hj⊢;have Ķ:=ţ CH[j];have ķ:=bW dF N;have Cm:=ĉ.Cm;have GM:=ĉ.GM;have tl:=ĉ.len;have hn:=w6 CH[j].el (by omega);have hx:=w7 CH[j].text (by omega);have hxtl:=Ť CH[j].text;have hit:=σ CH[j].el (by omega) (by omega);have hnml:=Ţ CH[j].el (cX ε CH[j].el) (by unfold cX;simp;omega);clear Ğ ĵ ţ w6 w7 Ť Ţ hj hNF hit;generalize CH[j]=f at*
   generalize jI order c.av f.el (cX ε f.el)=nm at*
   generalize xp f.text=xt at*
   simp (maxSteps:=9^9) (disch:=omega) [-F,-H,-C,-I,-J,om,h1,hgj,ab,hn,hx,hw,ķ,ł];refine ⟨j+1,N++ [FN f],⟨by simp,by omega,by simp;omega⟩,by omega,?_⟩;exact ⟨by simp,by simp [dF,Ķ],by simp⟩
  ·rw [O (by omega),Μ,Ζ] at hj⊢;simp (maxSteps:=9^9) (disch:=omega) [-F,-H,-C,-I,-J,om,h1,ab,ł]
theorem BS (it:Int->ae) (l:κ Sh) (root:Int): ∀(r:κ Sh) (i:ο),(fi it l root i r).length<=Ê r
 | [],_=>by simp [fi]
 | s::r,i=>by
  have:=BS it l root r (i+1);unfold fi;split <;> simp only [ζ] <;> omega
theorem zA (c:Ct) (hc:c.ok) (root:Int) (lang:ae):
  ar cfg 36 [br c,Q U root,η lang] []=M (.aK [if aW c root lang=0 then xE root lang (NT ε c root lang) else Kj,Q U (aW c root lang)], []):=by
 refine aa aej abt ?_;have w1:=qF c hc;have w2:=qD c.ln c.lz c.ad hc.lz hc.ll lang;have w3:=jW c hc c.ai.length (ρ _) root;rw [θ] at w3;have Ā:=bW bw c.ai;unfold xE Kj;by_cases hk:dU c=0
 case neg=>
  have key:aW c root lang=1:=by unfold aW;rw [Z hk]
  rw [key];unfold br dm at*
  generalize dU c=e at*
  generalize au c.ad=L1 at*
  generalize c.av.map dc=L2 at*
  generalize c.ai.map bw=L3 at*
  simp (maxSteps:=9^9) (disch:=omega) [-F,-H,-C,-I,-J,om,O2,w1,hk,ab]
 have hk0: ¬ dU c≠0:=by simpa using hk
 rw [hk] at w1;cases hh:cD c.ad lang with
 | false=>
  rw [hh] at w2;have key:aW c root lang=10:=by unfold aW;rw [δ hk0,Z hh]
  rw [key];unfold br dm at*
  generalize au c.ad=L1 at*
  generalize c.av.map dc=L2 at*
  generalize c.ai.map bw=L3 at*
  simp (maxSteps:=9^9) (disch:=omega) [-F,-H,-C,-I,-J,om,O2,w1,w2,ab]
 | true=>
  rw [hh] at w2;have hh0: ¬ cD c.ad lang=false:=by rw [hh];simp
  cases hx:aL c.ai root with
  | none=>
   rw [hx] at w3;have key:aW c root lang=7:=by unfold aW;rw [δ hk0,δ hh0,hx];rfl
   rw [key];unfold br dm at*
   generalize au c.ad=L1 at*
   generalize c.av.map dc=L2 at*
   generalize c.ai.map bw=L3 at*
   simp (maxSteps:=9^9) (disch:=omega) [-F,-H,-C,-I,-J,om,O2,w1,w2,w3,Ā,aJ,ab]
  | some i0=>
   rw [hx] at w3;have key:aW c root lang=0:=by unfold aW;rw [δ hk0,δ hh0,hx];rfl
   rw [key,Z rfl];have hok:=cj hk;have hsl:=hok.G1;have w4:=fun i (hi:i<c.ai.length)=>ur c hc (M i) (fun j h=>by cases h;exact hi);have w5:=fun i=>IC K 1 (chain c.ai i) (fun _=>rfl);have w6:=fun i hi hin=>RI c hc hk root i hi hin lang;have ě:=fun i=>qE (l:=c.ai) i;have į:=BS ε c.ai root;have hib: ∀i,vp (chain c.ai i) root=qt c.ai root i:=fun i=>xn _ _;unfold NT;generalize Dj ε (aw c.ad lang) c=sr at*
   simp only [ij,aJ] at w3 w4;clear hok hc;unfold br dm at*
   generalize au c.ad=L1 at*
   generalize c.av.map dc=L2 at*
   generalize c.ai.map bw=L3 at*
   generalize c.ai=S at*
   generalize hRES:(fi ε S root 0 S).map sr=ĥ at*
   simp (maxSteps:=9^9) (disch:=omega) [-F,-H,-C,-I,-J,om,O2,w1,w2,w3,Ā,ab]
   refine Wp.az (fun (a:ο×κ mv)=>Ê S-a.1) (fun a=> [K,M (Q U root),M (η lang),M (φ 0 0),M (φ 1 0),K,M (φ 3 0),M (Q U a.1),K,K,K,K,K,K,K,K,K,K,K,K,K,K,K,K,K]) (fun a=> [π 26 [ν c.ln c.lz L1,ν c.bn c.bz L2,ν c.sn c.sz L3],π 49 [Q U 0,η [],ύ 2 0],ϋ ⟨ξ,M 58,K⟩ 3 [],π 49 [Q U root,η lang,ύ 4 a.2.length],ϋ ⟨ξ,M 58,K⟩ 3 (a.2.map cH)])
    (fun a=>ĥ=a.2++(fi ε S root a.1 (S.drop a.1)).map sr/\a.1<=Ê S/\a.2.length<=a.1) ?_ (0, []) ⟨by simpa using hRES.symm,by simp,by simp⟩ (by simp) (by simp)
   rintro ⟨i,out⟩ ⟨hi,Ă,Ĉ⟩;simp only at hi Ă Ĉ⊢;rw [hi];clear hi hRES;by_cases h1:i<Ê S
   ·rw [W h1];simp only [fi];have x4:=w4 i h1;have x5:=w5 i (by have:=ě i;omega) root;rw [hib] at x5;have x6:=w6 i h1;clear w4 w5 w6 ě į hib;cases hin:qt S root i with
    | false=>
     rw [hin] at x5;rw [δ (by simp)];generalize chain S i=CC at*
     simp (maxSteps:=9^9) (disch:=omega) [-F,-H,-C,-I,-J,om,h1,Ā,x4,x5,ab];exact ⟨i+1,out,⟨rfl,by omega,by omega⟩,by omega,by simp,rfl,rfl⟩
    | true=>
     rw [hin] at x5;rw [Z rfl,Δ];have x7:=x6 hin;unfold cH at x7;generalize hq:sr (S[i],jF ε S root i)=q at*
     have hom:=bW cH out;generalize chain S i=CC at*
     clear x6;simp (maxSteps:=9^9) (disch:=omega) [-F,-H,-C,-I,-J,om,h1,Ā,x4,x5,x7,ab,hom];exact ⟨i+1,out++ [q],⟨by simp,by omega,by simp;omega⟩,by omega,by simp,by simp,by simp [cH]⟩
   ·rw [O (by omega)];simp (maxSteps:=9^9) (disch:=omega) [-F,-H,-C,-I,-J,om,h1,Ā,fi,ab]
set_option maxHeartbeats 4000000
theorem BT (a b:Cell):ar cfg 80 [im a,im b] []=M (Ι (eB a b), []):=by
 refine aa aek abu ?_;obtain ⟨a1,a2⟩:=a;obtain ⟨b1,b2⟩:=b;unfold eB im;simp only;rcases Υ a1 b1 with h | h | h
 ·simp (maxSteps:=9^9) (disch:=omega) [-F,-H,-C,-I,-J,om,RJ,h]
 ·subst h;simp (maxSteps:=9^9) (disch:=omega) [-F,-H,-C,-I,-J,om,RJ]
 ·have h1: ¬ a1<b1:=by omega
  have h2: ¬ a1=b1:=by omega
  have h3:(a1==b1)=false:=by simpa using h2
  simp (maxSteps:=9^9) (disch:=omega) [-F,-H,-C,-I,-J,om,RJ,h1,h2,h3]
theorem uu (nl:μ Φ) (z:ο) (l:κ (Cell×ae)) (hz:l≠ []->z=3) (hl:Ê l<1000000) (x:Cell):ar cfg 81 [ν nl z (aN l),im x] []=M (.aK [η ((ax l x).getD []),Ι (ax l x).isSome], []):=by
 refine aa ael abv ?_;have hE:=L6 l;have Ā:=fm l;generalize aN l=E at*
 unfold im;obtain ⟨x1,x2⟩:=x;simp only;simp (maxSteps:=9^9) (disch:=omega) [-F,-H,-C,-I,-J,om,abw];refine Wp.az (fun (i:ο)=>Ê l-i) (fun i=> [M (ν nl z E),K,M (φ 0 0),K,K,M (Q U i),K,K]) (fun _=> [π 78 [Q U x1,Q U x2]]) (fun i=>ax l (x1,x2)=ax (l.drop i) (x1,x2)/\i<=Ê l) ?_ 0 ⟨by simp,by omega⟩ (by simp) rfl;rintro i ⟨hi,Ă⟩;rw [hi];clear hi;by_cases h1:i<Ê l
 ·have hg:=hE i h1;obtain rfl:=hz (ne_of_lt h1);rw [W h1];generalize l[i]=r at*
  clear hE;obtain ⟨⟨r1,r2⟩,t⟩:=r;simp only at hg;by_cases e:((r1,r2):Cell)=(x1,x2)
  ·have e1:r1=x1:=ϓ Prod.fst e;have e2:r2=x2:=ϓ Prod.snd e;have hq:=q8 (x:=((r1,r2),t)) (r:=l.drop (i+1)) (c:=(x1,x2)) e;rw [hq];simp (maxSteps:=9^9) (disch:=omega) [-F,-H,-C,-I,-J,om,h1,hg,Ā,e1,e2]
  ·have hq:=mg (x:=((r1,r2),t)) (r:=l.drop (i+1)) (c:=(x1,x2)) e
   have e3:(r1==x1&&r2==x2)=false:=by rw [Ψ];intro h;simp at h;exact e (ϒ h.1 h.2)
   have e4: ¬ (r1=x1/\r2=x2):=fun h=>e (ϒ h.1 h.2);rw [hq];simp (maxSteps:=9^9) (disch:=omega) [-F,-H,-C,-I,-J,om,h1,hg,Ā,e3,e4];exact ⟨i+1,⟨rfl,by omega⟩,by omega,by simp⟩
 ·rw [O (by omega)];simp (maxSteps:=9^9) (disch:=omega) [-F,-H,-C,-I,-J,om,h1,Ā,ax]
theorem Gw: ∀(s cur:ae) (x:UInt8),x≠10->cw cur (x::s)=cw (cur++ [x]) s:=fun s cur x h=>by simp [cw,h]
theorem O3 (s:ae) (hs:Ê s<1000000): ∃nl,ar cfg 137 [η s] []=M (.aK [ν nl 1 (au (cw [] s).1),Ι (cw [] s).2], []):=by
 refine ⟨K,aa abx WB ?_⟩;simp (maxSteps:=9^9) (disch:=omega) [-F,-H,-C,-I,-J,om,Tt]
 refine Wp.az (fun (a:ο×ο×κ ae)=>Ê s-a.1) (fun a=> [M (η s),K,K,M (ύ 0 a.2.2.length),M (Q U a.2.1),M (Q U a.1),K,K,K,K]) (fun a=> [ϋ ⟨ξ,M 9,K⟩ 1 (au a.2.2)])
  (fun a=>(cw [] s).1=a.2.2++(cw ((s.take a.1).drop a.2.1) (s.drop a.1)).1/\(cw [] s).2=(cw ((s.take a.1).drop a.2.1) (s.drop a.1)).2/\a.1<=Ê s/\a.2.1<=a.1/\a.2.2.length<=a.1) ?_ (0,0, []) ⟨by simp,by simp,by simp,by simp,by simp⟩ (by simp) (by simp [au])
 rintro ⟨i,ă,out⟩ ⟨č,Đ,Ă,hf,Ĉ⟩;simp only at č Đ Ă hf Ĉ⊢;rw [č,Đ];clear č Đ;by_cases h1:i<Ê s
 ·have hg:s[i]?=M (s.getD i 0):=by simp [C,h1]
  have hd:s.drop i=s.getD i 0::s.drop (i+1):=by rw [W h1];simp [C,h1]
  have Ē:s.take (i+1)=s.take i++ [s.getD i 0]:=by rw [List.take_succ_eq_append_getElem h1];simp [C,h1]
  by_cases hc:s.getD i 0=10
  ·rw [hd,hc];simp only [cw,Z];rw [hc] at hg;have hdd:((s.take (i+1)).drop (i+1))= []:=by exact O (by rw [Γ];omega)
   generalize hX:(s.take i).drop ă=X at*
   simp (maxSteps:=9^9) (disch:=omega) [-F,-H,-C,-I,-J,om,h1,hg,aq,hX,hf,ab];exact ⟨i+1,i+1,out++ [X],⟨by rw [hdd];simp,by rw [hdd],by omega,by omega,by simp;omega⟩,by omega,⟨by simp,by simp,by simp⟩,by simp [au]⟩
  ·have Ň: ¬ (((s.getD i 0).toNat:Int)=10):=fun h=>hc (UInt8.toNat_inj.mp (by show _=10;omega));have hc3:(((s.getD i 0).toNat:Int)==10)=false:=by simpa using Ň
   have hX:(s.take i).drop ă++ [s.getD i 0]=(s.take (i+1)).drop ă:=by
    rw [Ē,List.drop_append];have:ă-(s.take i).length=0:=by simp;omega
    rw [this];rfl
   rw [hd,Gw _ _ _ hc,hX];clear hX hd Ē;generalize s.getD i 0=c at*
   simp (maxSteps:=9^9) (disch:=omega) [-F,-H,-C,-I,-J,om,h1,hg,aq,Ň,hc3];exact ⟨i+1,ă,out,⟨rfl,rfl,by omega,by omega,by omega⟩,by omega,⟨rfl,rfl,by simp⟩,rfl⟩
 ·obtain rfl:i=Ê s:=by omega
  rw [O (ρ _),θ]
  have hq:(decide (s.drop ă= []))=((ă:Int)==(Ê s:Int)):=by rw [Ϗ,ϑ,Ω,List.drop_eq_nil_iff];omega
  have hq2:((ă:Int)==(Ê s:Int))=decide (Ê s<=ă):=by rw [Ϗ,ϑ,Ω];omega
  simp (maxSteps:=9^9) (disch:=omega) [-F,-H,-C,-I,-J,om,cw,hq2]
theorem zB (line w:ae) (hl:Ê line<190000) (hw:Ê w<1000): ∃(t:ae) (q:Φ),ar cfg 138 [η line,η w] []=M (.aK [η t,Ι q], [])/\kS ag line w=if q=Θ then M t else none:=by
 unfold kS
 have hp:((w++ [32]).isPrefixOf line=Θ)↔(Ê w+1<=Ê line/\line.take (Ê w+1)=w++ [32]):=by
  rw [List.isPrefixOf_iff_prefix];constructor
  ·rintro ⟨r,rfl⟩;refine ⟨by simp,?_⟩;rw [List.take_append_of_le_length (by simp)];exact Β (by simp)
  ·rintro ⟨_,h⟩;exact ⟨line.drop (Ê w+1),by rw [<-h,List.take_append_drop]⟩
 by_cases h:(w++ [32]).isPrefixOf line=Θ
 ·rw [Z h];obtain ⟨h1,h2⟩:=hp.1 h;have hu:=VR (line.drop (Ê w+1)) (by simp;omega);rw [Bx] at hu
  obtain ⟨t,q,hq,hr⟩: ∃t q,ar cfg 183 [η (line.drop (Ê w+1))] []=M (.aK [η t,Ι q], [])/\ag (line.drop (Ê w+1))=if q=Θ then M t else none:=by
   cases hx:ag (line.drop (Ê w+1)) with
   | none=>rw [hx] at hu;exact ⟨[],ξ,hu,rfl⟩
   | some t=>rw [hx] at hu;exact ⟨t,Θ,hu,rfl⟩
  refine ⟨t,q,?_,hr⟩;refine aa Tu O4 ?_;clear hp hu hr h;have e1:((Ê w:Int)+1).toNat=Ê w+1:=by omega
  have e2: ¬ ((Ê line:Int)<(Ê w:Int)+1):=by omega
  have e3:(line.take (Ê line)).drop (Ê w+1)=line.drop (Ê w+1):=by rw [θ]
  simp (maxSteps:=9^9) (disch:=omega) [-F,-H,-C,-I,-J,om,J9,h1,h2,hq,e1,e2,e3]
 ·rw [δ h];refine ⟨[],ξ,?_,rfl⟩;refine aa Tu O4 ?_;by_cases h1:Ê w+1<=Ê line
  ·have h2:line.take (Ê w+1)≠w++ [32]:=fun e=>h (hp.2 ⟨h1,e⟩);have e1:((Ê w:Int)+1).toNat=Ê w+1:=by omega
   have e2: ¬ ((Ê line:Int)<(Ê w:Int)+1):=by omega
   have h3:(line.take (Ê w+1)==w++ [32])=false:=by rw [Η];exact h2
   clear hp h;simp (maxSteps:=9^9) (disch:=omega) [-F,-H,-C,-I,-J,om,J9,h1,h2,h3,e1,e2]
  ·have e2:(Ê line:Int)<(Ê w:Int)+1:=by omega
   clear hp h;simp (maxSteps:=9^9) (disch:=omega) [-F,-H,-C,-I,-J,om,J9,e2]
set_option maxHeartbeats 8000000
theorem RL (c:Ct) (hc:c.ok) (u:Int) (lang:ae) (hr:aO c lang=Θ):ar cfg 129 [br c,Q U u,η lang] []=M (η (match bT c u with
  | some s=>uh ε aB (ec s.level) s.title s.mark (cB (aw c.ad lang) s.facts)
  | none=> []), []):=by
 have w1:=jW c hc c.ai.length (ρ _) u;rw [θ] at w1;have Ā:=bW bw c.ai;obtain ⟨nl,z,w2,hz⟩:=Gu c hc u lang;have ī:dP c u lang=cB (aw c.ad lang) (ep c u):=by unfold dP;rw [Z hr]
 rw [ī] at w2 hz;have hok:=cj (c5 hr).1;refine aa aby WC ?_;cases hx:aL c.ai u with
 | none=>
  have ť:bT c u=none:=by unfold bT;rw [hx]
  rw [hx] at w1;simp only [ť];unfold br dm at*
  generalize au c.ad=L1 at*
  generalize c.av.map dc=L2 at*
  generalize c.ai.map bw=L3 at*
  simp (maxSteps:=9^9) (disch:=omega) [-F,-H,-C,-I,-J,om,O5,w1,Ā,aJ]
 | some i=>
  rw [hx] at w1;have hi:=cN hx;have hgo:c.ai[i]?=M c.ai[i]:=γ hi;have ť:bT c u=M c.ai[i]:=by unfold bT;rw [hx];exact hgo
  have hfU:ep c u=c.ai[i].facts:=by unfold ep;rw [ť]
  rw [hfU] at w2 hz;have hg:=gQ c.ai hi;have Ę:=hc.sz (ne_of_lt hi);have Ć:=hok.ai _ (ι hi);have w3:=xo c.ai[i].level Ć.l1 Ć.l2;have w4:=xl c.ai[i].title (by have:=Ć.wO;omega);have w5:=xl c.ai[i].mark (by have:=Ć.mark;omega);have ċ:=eM c.ai[i].title;have hml:=eM c.ai[i].mark;have htl2:=Ć.wO;have hml2:=Ć.mark
  have htg:(ec c.ai[i].level).length<=6:=by
   unfold ec
   repeat' split
   all_goals simp
  have ĵ: ∀f∈cB (aw c.ad lang) c.ai[i].facts,zZ c.ad f:=fun f hf=>Ć.facts f (ik hf);have š:(cB (aw c.ad lang) c.ai[i].facts).length<=32:=Χ (jX _ _ _ _) Ć.FG;have Ă:i<1000000:=by have:=hc.sl;omega
  simp only [ť];have hT:uh ε aB (ec c.ai[i].level) c.ai[i].title c.ai[i].mark (cB (aw c.ad lang) c.ai[i].facts)=(ec c.ai[i].level++32::(aB c.ai[i].title++10::109::97::114::107::32::(aB c.ai[i].mark++ [10])))++(cB (aw c.ad lang) c.ai[i].facts).flatMap fun f=>ε f.el++ [32]++aB f.text++ [10]:=by simp [uh,jt]
  have hE:=PB (cB (aw c.ad lang) c.ai[i].facts);have Ŏ:=bW dQ (cB (aw c.ad lang) c.ai[i].facts);generalize cB (aw c.ad lang) c.ai[i].facts=CH at*
  generalize CH.map dQ=CA at*
  generalize hTT:uh ε aB (ec c.ai[i].level) c.ai[i].title c.ai[i].mark CH=TT at*
  clear Ć hok hTT;simp only [aJ] at w1;unfold br dm at*
  generalize c.ai[i]=x at*
  generalize au c.ad=L1 at*
  generalize c.av.map dc=L2 at*
  generalize c.ai.map bw=L3 at*
  rw [Ę] at*
  generalize aB x.title=T1 at*
  generalize aB x.mark=T2 at*
  generalize ec x.level=T0 at*
  simp (maxSteps:=9^9) (disch:=omega) [-F,-H,-C,-I,-J,om,O5,w1,w2,w3,w4,w5,Ā,hg,ab];obtain ⟨Y,hY⟩: ∃Y,Y=T0++32::(T1++10::109::97::114::107::32::(T2++ [10])):=⟨_,rfl⟩;have hYl:Ê Y<=1000:=by rw [hY];simp only [τ,ζ,χ];omega
  rw [<-hY] at hT⊢;clear w1 w2 w3 w4 w5 hY
  refine Wp.az (fun (a:ο×ae)=>Ê CH-a.1) (fun a=> [K,K,K,K,K,K,K,M (η a.2),M (ν nl z CA),M (Q U a.1),K,K,K,K,K,K,K,K,K,K]) (fun _=> [π 26 [ν c.ln c.lz L1,ν c.bn c.bz L2,ν c.sn 6 L3],π 74 [Q U x.unit,Q U x.par,Q U x.level,η x.mark,η x.title,ν x.fn x.fz (x.facts.map dQ)]])
   (fun a=>(TT=a.2++(CH.drop a.1).flatMap fun f=>ε f.el++ [32]++aB f.text++ [10])/\a.1<=Ê CH/\a.2.length<=1000+20000*a.1) ?_ (0,Y) ⟨by simpa using hT,by simp,by simpa using hYl⟩ (by simp) rfl
  rintro ⟨k,out⟩ ⟨hk1,ĭ,Ĉ⟩;simp only at hk1 ĭ Ĉ⊢;rw [hk1];clear hk1 hT;by_cases h3:k<Ê CH
  ·have Ą:=hE k h3;have ĉ:=ĵ _ (ι h3);obtain rfl:=hz (ne_of_lt h3);rw [W h3,List.flatMap_cons];generalize CH[k]=f at*
   have Į:=xl f.text (by have:=ĉ.len;omega);have hetl:=eM f.text;have hfl2:=ĉ.len;have hitl:=σ f.el (by have:=ĉ.Cm;omega) (by have:=ĉ.GM;omega);have İ: -9223372036854775808<=f.el:=by have:=ĉ.Cm;omega
   have ı:f.el<=9223372036854775807:=by have:=ĉ.GM;omega
   clear hE ĵ ĉ;generalize hit:ε f.el=it at*
   generalize aB f.text=T3 at*
   simp (maxSteps:=9^9) (disch:=omega) [-F,-H,-C,-I,-J,om,h3,Ą,Ŏ,Į,oL,İ,ı,hit];exact ⟨k+1,out++(it++32::(T3++ [10])),⟨by simp,by omega,by simp;omega⟩,by omega,by simp,by simp⟩
  ·rw [O (by omega)];simp (maxSteps:=9^9) (disch:=omega) [-F,-H,-C,-I,-J,om,h3,Ŏ]
theorem JW (c:Ct) (hc:c.ok) (root:Int) (lang:ae) (x:Cell):ar cfg 75 [br c,Q U root,η lang,im x] []=M (η (if aO c lang=Θ then FU ε aB c lang root x else []), []):=by
 refine aa aem abz ?_;have w1:=qF c hc;have w2:=qD c.ln c.lz c.ad hc.lz hc.ll lang;obtain ⟨k,u⟩:=x;unfold im;simp only;by_cases hk:dU c=0
 case neg=>
  have hr:aO c lang=false:=by unfold aO;simp [hk]
  rw [hr,δ (by simp)];unfold br dm at*
  generalize dU c=e at*
  generalize au c.ad=L1 at*
  generalize c.av.map dc=L2 at*
  generalize c.ai.map bw=L3 at*
  have hk2:(e !=0)=true:=by simpa using hk
  simp (maxSteps:=9^9) (disch:=omega) [-F,-H,-C,-I,-J,om,Gx,w1,hk,hk2]
 cases hh:cD c.ad lang with
 | false=>
  have hr:aO c lang=false:=by unfold aO;simp [hh]
  rw [hr,δ (by simp)];rw [hk] at w1;rw [hh] at w2;unfold br dm at*
  generalize au c.ad=L1 at*
  generalize c.av.map dc=L2 at*
  generalize c.ai.map bw=L3 at*
  simp (maxSteps:=9^9) (disch:=omega) [-F,-H,-C,-I,-J,om,Gx,w1,w2]
 | true=>
  have hr:aO c lang=true:=FQ hk hh;rw [Z hr];have w3:=J7 c hc root u;rw [Z hk] at w3;have w4:=RL c hc u lang hr;have w5:=LO c hc u lang;have w6:=LP c hc u;rw [Z hk] at w6;have h5:(if u<1\/64<u\/aO c lang=ξ then [] else jI (aw c.ad lang) c.av u (cX ε u))=(if u<1\/64<u then [] else jI (aw c.ad lang) c.av u (cX ε u)):=by rw [hr];simp
  rw [h5] at w5;rw [hk] at w1;rw [hh] at w2;unfold FU;simp only
  generalize hV2:(match bT c u with
   | some s=>uh ε aB (ec s.level) s.title s.mark (cB (aw c.ad lang) s.facts)
   | none=>([]:ae))=V2 at*
  generalize (if u<1\/64<u then ([]:ae) else jI (aw c.ad lang) c.av u (cX ε u))=V3 at*
  generalize eL ε c root u=V1 at*
  generalize cY c.ai u=V4 at*
  clear h5;unfold br dm at*
  generalize au c.ad=L1 at*
  generalize c.av.map dc=L2 at*
  generalize c.ai.map bw=L3 at*
  by_cases e1:k=1
  ·simp (maxSteps:=9^9) (disch:=omega) [-F,-H,-C,-I,-J,om,Gx,w1,w2,e1,w3]
  by_cases e2:k=2
  ·simp (maxSteps:=9^9) (disch:=omega) [-F,-H,-C,-I,-J,om,Gx,w1,w2,e2,w4];rw [<-hV2];cases bT c u <;> rfl
  by_cases e3:k=3
  ·simp (maxSteps:=9^9) (disch:=omega) [-F,-H,-C,-I,-J,om,Gx,w1,w2,e3,w5]
  by_cases e4:k=4
  ·simp (maxSteps:=9^9) (disch:=omega) [-F,-H,-C,-I,-J,om,Gx,w1,w2,e4,w6]
  simp (maxSteps:=9^9) (disch:=omega) [-F,-H,-C,-I,-J,om,Gx,w1,w2,e1,e2,e3,e4]
def bk (l:κ Cell):κ AV:=l.map im
theorem zC (l:κ (Cell)):(bk l).length=Ê l:=by simp [bk]
def Gy:κ Cell->Cell->ο
 | [],_=>0
 | y::r,x=>if eB y x=Θ then Gy r x+1 else 0
theorem O6 (x:Cell): ∀l:κ Cell,Gy l x<=Ê l
 | []=>ρ _
 | y::r=>by
  have:=O6 x r;unfold Gy;split <;> simp only [ζ] <;> omega
theorem xq (x:Cell): ∀l:κ Cell,iw l x=if l[Gy l x]?=M x then l else l.take (Gy l x)++x::l.drop (Gy l x)
 | []=>by simp [iw,Gy]
 | y::r=>by
  have ih:=xq x r;unfold iw Gy;by_cases hb:eB y x=Θ
  ·rw [Z hb,Z hb,ih];simp only [Κ,List.take_succ_cons,List.drop_succ_cons];split <;> simp
  ·rw [δ hb,δ hb];by_cases he:y=x
   ·simp [he]
   ·simp [he]
theorem Ka (x:Cell): ∀(l:κ Cell) (i:ο) (y:Cell),l[i]?=M y->(∀k z,k<i->l[k]?=M z->eB z x=Θ)->i<=Gy l x/\(eB y x=false->Gy l x=i)
 | [],i,y,h,_=>by simp at h
 | z::r,0,y,h,_=>by
  cases h;refine ⟨Nat.zero_le _,fun hb=> ?_⟩;unfold Gy;rw [δ (by rw [hb];simp)]
 | z::r,i+1,y,h,hb=>by
  have h0:=hb 0 z (by omega) rfl;have ih:=Ka x r i y (by simpa using h) (fun k w hk hw=>hb (k+1) w (by omega) (by simpa using hw));unfold Gy;rw [Z h0];exact ⟨by omega,fun q=>by rw [ih.2 q]⟩
theorem IE (l:κ Cell) {i:ο} (h:i<Ê l):(bk l)[i]?=M (Α [Q U l[i].1,Q U l[i].2]):=get_map _ _ h
theorem Kb (x:Cell): ∀(l:κ Cell),(∀z∈l,eB z x=Θ)->Gy l x=Ê l
 | [],_=>rfl
 | y::r,h=>by
  unfold Gy;rw [Z (h y (by simp)),Kb x r (fun z hz=>h z (by simp [hz]))];rfl
theorem O7 (nl:μ Φ) (z:ο) (l:κ Cell) (hz:l≠ []->z=2) (hl:Ê l<1000000) (x:Cell):ar cfg 127 [ν nl z (bk l),im x] []=M (if l[Gy l x]?=M x then ν nl z (bk l) else ν K 2 (bk (iw l x)), []):=by
 have Ď:=xq x l;have ğ:=fun i (h:i<Ê l)=>BT l[i] x;have hg:=fun i (h:i<Ê l)=>IE l h;have Ŧ:=Ka x l;have Ġ:=Kb x l;have Ā:=zC l;have Ē: ∀i,(bk l).take i=bk (l.take i):=fun i=>by simp [bk]
 have ŧ: ∀i,(bk l).drop i=bk (l.drop i):=fun i=>by simp [bk]
 obtain ⟨x1,x2⟩:=x;refine aa abA WD ?_;unfold im at*
 simp only at*
 generalize hA:Gy l (x1,x2)=A at*
 generalize hE:bk l=E at*
 simp (maxSteps:=9^9) (disch:=omega) [-F,-H,-C,-I,-J,om,Tv];refine Wp.az (fun (a:ο×μ AV)=>Ê l-a.1) (fun a=> [M (ν nl z E),K,M (φ 0 0),K,M (Q U a.1),K,K,a.2,K,K,K,K,K,K,K,K]) (fun _=> [π 78 [Q U x1,Q U x2]]) (fun a=>a.1<=Ê l/\ ∀k y,k<a.1->l[k]?=M y->eB y (x1,x2)=Θ) ?_ (0,K) ⟨by simp,fun k y hk=>by simp at hk⟩ (by simp) rfl;rintro ⟨i,o⟩ ⟨Ă,hbi⟩;simp only at Ă hbi⊢;by_cases h1:i<Ê l
 ·have hb:=ğ i h1;have ą:=hg i h1;have Ũ:l[i]?=M l[i]:=γ h1;have hai:=Ŧ i l[i] Ũ hbi;obtain rfl:=hz (ne_of_lt h1)
  have hst:eB l[i] (x1,x2)=true-> ∀k y,k<i+1->l[k]?=M y->eB y (x1,x2)=true:=fun h k y hk hy=>by
   by_cases e:k=i
   ·subst e;rw [Ũ] at hy;cases hy;exact h
   ·exact hbi k y (by omega) hy
  generalize hy:l[i]=y at*
  cases hbq:eB y (x1,x2) with
  | true=>rw [hbq] at hb;have hbi2:=hst hbq;clear ğ hg Ŧ Ġ hai hst hbi Ď Ē ŧ;simp (maxSteps:=9^9) (disch:=omega) [-F,-H,-C,-I,-J,om,h1,ą,Ā,hb];exact ⟨i+1,⟨by omega,fun k a b hk hy=>hbi2 k (a,b) hk hy⟩,by omega,by simp⟩
  | false=>
   rw [hbq] at hb;obtain rfl:=hai.2 hbq;clear ğ hg Ŧ Ġ hai hst hbi;by_cases he:y=(x1,x2)
   ·subst he;rw [Z Ũ];simp (maxSteps:=9^9) (disch:=omega) [-F,-H,-C,-I,-J,om,h1,ą,Ā,hb]
   ·have hne: ¬ (l[A]?=M (x1,x2)):=by rw [Ũ];simpa using he
    rw [δ hne] at Ď⊢
    have ė:(y.1==x1&&y.2==x2)=false:=by rw [Ψ];intro h;simp at h;exact he (ϒ h.1 h.2)
    have Ŝ: ¬ (y.1=x1/\y.2=x2):=fun h=>he (ϒ h.1 h.2);rw [Ď];have ċ:(l.take A).length=A:=by simp;omega
    have Ŋ:(l.drop A).length=Ê l-A:=by simp
    have hd0:l.drop A≠ []:=by simp;omega
    have ũ:=Ē A;have Ħ:=ŧ A;have Ū:E.take (Ê l)=E:=Β (by omega);clear Ď Ē ŧ hA hE;generalize l.take A=T at*
    generalize l.drop A=D at*
    cases hDD:D with
    | nil=>exact absurd hDD hd0
    | cons d0 D0=>
     subst hDD;simp only [ζ] at Ŋ;have ŏ:(bk (d0::D0)).length=Ê D0+1:=by simp [bk]
     cases hTT:T with
     | nil=>subst hTT;simp only [ζ,χ] at ċ;simp only [bk,Μ,Δ] at ũ Ħ ŏ;simp (maxSteps:=9^9) (disch:=omega) [-F,-H,-C,-I,-J,om,h1,ą,Ā,hb,ė,Ŝ,ũ,Ħ,Ū];simp [bk,im]
     | cons t0 T0=>subst hTT;simp only [ζ,χ] at ċ;simp only [bk,Μ,Δ] at ũ Ħ ŏ;simp (maxSteps:=9^9) (disch:=omega) [-F,-H,-C,-I,-J,om,h1,ą,Ā,hb,ė,Ŝ,ũ,Ħ,Ū];simp [bk,im]
 ·obtain rfl:i=Ê l:=by omega
  have hA2:A=Ê l:=by
   exact Ġ fun z hz=>by
    obtain ⟨k,hk,hzk⟩:=List.getElem_of_mem hz;exact hbi k z hk (by rw [γ hk,hzk])
  have hne: ¬ (l[A]?=M (x1,x2)):=by rw [hA2,List.getElem?_eq_none (by omega)];simp
  rw [δ hne] at Ď⊢;rw [Ď,hA2,θ,List.drop_length];have Ū:E.take (Ê l)=E:=Β (by omega);have hEd:E.drop (Ê l)= []:=O (by omega);clear ğ hg Ŧ Ġ hbi Ď Ē ŧ hA hne;cases l with
  | nil=>subst hE;simp (maxSteps:=9^9) (disch:=omega) [-F,-H,-C,-I,-J,om,bk];simp [bk,im]
  | cons t0 T0=>
   obtain rfl:=hz (by simp);simp only [ζ] at*
   have hE2:E= Α [Q U t0.1,Q U t0.2]::bk T0:=by rw [<-hE];rfl
   have ě:=zC T0;generalize hC:bk T0=C0 at*
   subst hE2;clear hE;simp (maxSteps:=9^9) (disch:=omega) [-F,-H,-C,-I,-J,om,Ū,hEd,ě];simp [bk,im,<-hC]
theorem xr (nl:μ Φ) (z:ο) (l:κ Cell) (hz:l≠ []->z=2) (hl:Ê l<1000000) (x:Cell): ∃ē z',ar cfg 127 [ν nl z (bk l),im x] []=M (ν ē z' (bk (iw l x)), [])/\(iw l x≠ []->z'=2):=by
 have h:=O7 nl z l hz hl x;by_cases hq:l[Gy l x]?=M x
 ·rw [Z hq] at h;have ha:iw l x=l:=by rw [xq,Z hq]
  rw [ha];exact ⟨nl,z,h,fun q=>hz q⟩
 ·rw [δ hq] at h;exact ⟨K,2,h,fun _=>rfl⟩
theorem um (l:κ Cell) (x:Cell):(iw l x).length<=Ê l+1:=by
 rw [xq];split
 ·omega
 ·have:=O6 x l;simp only [τ,Γ,ζ,List.length_drop];omega
def gk (l:κ Cell) (t:ae) (j:ο):κ Cell:=(kW t j).foldl iw l
theorem sF (l:κ Cell) (t:ae) (j:ο):gk l t (j+1)=if (ao (t.drop j)).2=0 then gk l t j else iw (gk l t j) (4,(ao (t.drop j)).1):=by
 unfold gk kW;rw [List.range_succ,List.filterMap_append,ϊ];by_cases h:(ao (t.drop j)).2=0
 ·simp [h]
 ·simp [h]
def eD (u:Int) (CH:κ Fc) (k:ο):κ Cell:=((CH.take k).flatMap cE).foldl iw [(1,u),(2,u)]
theorem IF (u:Int) {CH:κ Fc} {k:ο} (h:k<Ê CH):eD u CH (k+1)=gk (iw (eD u CH k) (3,CH[k].el)) CH[k].text CH[k].text.length:=by
 unfold eD gk;rw [mD CH h,List.flatMap_append,ϊ];have: [CH[k]].flatMap cE=(3,CH[k].el)::kW CH[k].text CH[k].text.length:=by simp [cE];try rfl
 rw [this,List.foldl_cons]
theorem zD (s:ae):(ao s).2=0↔(ao s).1=0:=by
 rcases c7 s with h | ⟨h1,_,h3,_⟩
 ·rw [h]
 ·omega
def aen (u:Int) (w:AV) (l:κ Cell):Prop:=(w= ύ 2 2/\l= [(1,u),(2,u)])\/ ∃nl z,w= ν nl z (bk l)/\(l≠ []->z=2)
theorem vr (l:κ Cell) (t:ae): ∀j,(gk l t j).length<=Ê l+j
 | 0=>by simp [gk,kW]
 | j+1=>by
  have:=vr l t j;rw [sF];split
  ·omega
  ·have:=um (gk l t j) (4,(ao (t.drop j)).1);omega
theorem oo (l:κ Cell) (t:ae):gk l t 0=l:=by simp [gk,kW]
theorem IG (c:Ct) (hc:c.ok) (root u:Int) (lang:ae) (h0:aW c root lang=0) (h1:eL ε c root u≠ []):
  ar cfg 73 [br c,Q U root,η lang,Q U u] []=M (.aK [ν K 3 (aN ((cellsOf u (dP c u lang)).map fun z=>(z,FU ε aB c lang root z))),Q U 0], []):=by
 have hr:=eh h0;have hk:dU c=0:=(c5 hr).1;have hok:=cj hk;have w1:=zA c hc root lang;have w2:=J7 c hc root u;rw [Z hk] at w2;obtain ⟨nl,z,w3,hz⟩:=Gu c hc u lang;have wv: ∀x:Cell,_:=fun x=>JW c hc root lang x;rw [h0,Z rfl] at w1
 have hF: ∀f∈dP c u lang,zZ c.ad f:=by
  intro f hf;unfold dP at hf;rw [Z hr] at hf;have hf:=ik hf;unfold ep at hf;cases hs:bT c u with
  | none=>rw [hs] at hf;cases hf
  | some s=>rw [hs] at hf;obtain ⟨_,_,_,_,hm⟩:=fG hs;exact (hok.ai s hm).facts f hf
 have ĸ:(dP c u lang).length<=32:=by
  unfold dP;rw [Z hr];refine Χ (jX _ _ _ _) ?_;unfold ep;cases hs:bT c u with
  | none=>simp
  | some s=>obtain ⟨_,_,_,_,hm⟩:=fG hs;exact (hok.ai s hm).FG
 simp only [hr,if_true] at wv;have hcO:cellsOf u (dP c u lang)=eD u (dP c u lang) (dP c u lang).length:=by unfold cellsOf eD;rw [θ]
 rw [hcO];clear hcO;generalize hval:FU ε aB c lang root=val at*
 refine aa aeo abB ?_;have hE:=PB (dP c u lang);have Ā:=bW dQ (dP c u lang);generalize dP c u lang=CH at*
 generalize CH.map dQ=CA at*
 generalize eL ε c root u=nm at*
 have hnm:decide (nm≠ [])=true:=by simpa using h1
 rw [hnm] at w2;unfold xE at w1;generalize (NT ε c root lang).map cH=AS at*
 clear hk hok h0 h1 hr hnm hval;unfold br dm at*
 generalize au c.ad=L1 at*
 generalize c.av.map dc=L2 at*
 generalize c.ai.map bw=L3 at*
 simp (maxSteps:=9^9) (disch:=omega) [-F,-H,-C,-I,-J,om,abC,w1,w2,w3,Ā,ab];clear w1 w2 w3
 refine Wp.az (fun (a:ο×AV×Φ)=>Ê CH-a.1) (fun a=> [K,M (Q U root),M (η lang),K,M (φ 0 0),K,K,K,K,K,M (a.2.1),M (ν nl z CA),M (Q U a.1),K,K,K,K,K,K,K,K,K,K,K,K,K,K,K,K,K,K,K,K,K,K,K,K,K,K]) (fun a=> [π 26 [ν c.ln c.lz L1,ν c.bn c.bz L2,ν c.sn c.sz L3],π 49 [Q U root,η lang,ν K 3 AS],ϋ ⟨a.2.2,M 78,K⟩ 2 [Α [Q U 1,Q U u],Α [Q U 2,Q U u]]])
  (fun a=>a.1<=Ê CH/\aen u a.2.1 (eD u CH a.1)/\(eD u CH a.1).length<=2+5000*a.1/\(a.2.1= ύ 2 2->a.2.2=ξ)) ?_ (0,ύ 2 2,ξ) ⟨by simp,.inl ⟨rfl,by simp [eD]⟩,by simp [eD],by simp⟩ (by simp) rfl
 rintro ⟨k,w,ob⟩ ⟨ĭ,ġ,hln,hob⟩;simp only at ĭ ġ hln hob⊢;by_cases h3:k<Ê CH
 ·have Ą:=hE k h3;have ĉ:=hF _ (ι h3);obtain rfl:=hz (ne_of_lt h3);have ħ:=IF u h3;have š:=ĉ.len;clear hE hF wv;generalize CH[k]=f at*
  have hL1:=um (eD u CH k) (3,f.el)
  have Ő: ∃ē z',(∀(w1:AV),(w1=w->w1=w))/\(iw (eD u CH k) (3,f.el)≠ []->z'=2)/\((w= ύ 2 2/\ar cfg 127 [ν K 2 [Α [Q U 1,Q U u],Α [Q U 2,Q U u]],Α [Q U 3,Q U f.el]] []=M (ν ē z' (bk (iw (eD u CH k) (3,f.el))), []))\/ ∃n2 z2,w= ν n2 z2 (bk (eD u CH k))/\ar cfg 127 [ν n2 z2 (bk (eD u CH k)),Α [Q U 3,Q U f.el]] []=M (ν ē z' (bk (iw (eD u CH k) (3,f.el))), [])):=by
   rcases ġ with ⟨hw,hl⟩ | ⟨n2,z2,hw,hz2⟩
   ·obtain ⟨ē,z',q1,q2⟩:=xr K 2 (eD u CH k) (fun _=>rfl) (by omega) (3,f.el);rw [hl] at q1 q2⊢;exact ⟨ē,z',fun _ h=>h,q2,.inl ⟨hw,q1⟩⟩
   ·obtain ⟨ē,z',q1,q2⟩:=xr n2 z2 (eD u CH k) hz2 (by omega) (3,f.el);exact ⟨ē,z',fun _ h=>h,q2,.inr ⟨n2,z2,hw,q1⟩⟩
  obtain ⟨ē,z',_,hz',ő⟩:=Ő;clear ġ;generalize iw (eD u CH k) (3,f.el)=LL at*
  rcases ő with ⟨rfl,w1⟩ | ⟨n2,z2,rfl,w1⟩
  case' inl=>
   obtain rfl:=hob rfl;simp (maxSteps:=9^9) (disch:=omega) [-F,-H,-C,-I,-J,om,h3,Ą,Ā,ab,w1]
  case' inr=>
   generalize bk (eD u CH k)=LX at*
   simp (maxSteps:=9^9) (disch:=omega) [-F,-H,-C,-I,-J,om,h3,Ą,Ā,ab,w1]
  case inl=>
   clear w1
   refine Wp.az (fun (a:ο×AV)=>f.text.length-a.1) (fun a=> [K,M (Q U root),M (η lang),K,M (φ 0 0),K,K,K,K,K,M (a.2),M (ν nl 3 CA),M (Q U k),M (Q U a.1),K,K,K,K,K,K,K,K,K,K,K,K,K,K,K,K,K,K,K,K,K,K,K,K,K]) (fun _=> [π 26 [ν c.ln c.lz L1,ν c.bn c.bz L2,ν c.sn c.sz L3],π 49 [Q U root,η lang,ν K 3 AS],ϋ ⟨Θ,M 78,K⟩ 2 [Α [Q U 1,Q U u],Α [Q U 2,Q U u]]])
    (fun a=>a.1<=f.text.length/\ ∃n z,a.2= ν n z (bk (gk LL f.text a.1))/\(gk LL f.text a.1≠ []->z=2)) ?_ (0,ν ē z' (bk LL)) ⟨by simp,ē,z',by rw [oo],by rw [oo];exact hz'⟩ (by simp) rfl
   rintro ⟨j,w⟩ ⟨ģ,n3,z3,hw,Č⟩;simp only at ģ hw Č⊢;subst hw;have hal:=vr LL f.text j;by_cases h4:j<f.text.length
   ·have hp:=qG (f.text.drop j) (by simp;omega);unfold qI at hp;have Ĕ:=sF LL f.text j;have ċ:(f.text.take f.text.length).drop j=f.text.drop j:=by rw [θ]
    have ć:=zD (f.text.drop j);by_cases h5:(ao (f.text.drop j)).2=0
    ·rw [Z h5] at Ĕ;have h6:=ć.1 h5;rw [h6] at hp;generalize (ao (f.text.drop j)).2=pn at*
     rw [<-Ĕ] at Č;have Ĺ:=ϓ bk Ĕ;generalize bk (gk LL f.text j)=CJ at*
     clear ħ ć;simp (maxSteps:=9^9) (disch:=omega) [-F,-H,-C,-I,-J,om,h3,h4,Ą,Ā,hp,ċ];exact ⟨j+1,_,⟨by omega,n3,z3,by rw [Ĺ],Č⟩,by omega,rfl,by simp⟩
    ·rw [δ h5] at Ĕ;have h6: ¬ (ao (f.text.drop j)).1=0:=fun h=>h5 (ć.2 h);obtain ⟨n4,z4,q1,q2⟩:=xr n3 z3 (gk LL f.text j) Č (by omega) (4,(ao (f.text.drop j)).1);rw [<-Ĕ] at q1 q2;unfold im at q1;simp only at q1;generalize (ao (f.text.drop j)).2=pn at*
     generalize (ao (f.text.drop j)).1=pu at*
     have h7:(pu !=0)=true:=by simpa using h6
     clear ħ ć Ĕ;generalize bk (gk LL f.text j)=CJ at*
     simp (maxSteps:=9^9) (disch:=omega) [-F,-H,-C,-I,-J,om,h3,h4,Ą,Ā,hp,ċ,h6,h7,ab,q1];exact ⟨j+1,_,⟨by omega,n4,z4,rfl,q2⟩,by omega,rfl,by simp⟩
   ·obtain rfl:j=f.text.length:=by omega
    rw [<-ħ] at Č hal⊢;clear ħ;simp (maxSteps:=9^9) (disch:=omega) [-F,-H,-C,-I,-J,om,h3,Ą,Ā];exact ⟨k+1,_,⟨by omega,.inr ⟨n3,z3,rfl,Č⟩,by omega,by simp⟩,by omega,rfl,by simp⟩
  case inr=>
   clear w1
   refine Wp.az (fun (a:ο×AV)=>f.text.length-a.1) (fun a=> [K,M (Q U root),M (η lang),K,M (φ 0 0),K,K,K,K,K,M (a.2),M (ν nl 3 CA),M (Q U k),M (Q U a.1),K,K,K,K,K,K,K,K,K,K,K,K,K,K,K,K,K,K,K,K,K,K,K,K,K]) (fun _=> [π 26 [ν c.ln c.lz L1,ν c.bn c.bz L2,ν c.sn c.sz L3],π 49 [Q U root,η lang,ν K 3 AS],ϋ ⟨ob,M 78,K⟩ 2 [Α [Q U 1,Q U u],Α [Q U 2,Q U u]]])
    (fun a=>a.1<=f.text.length/\ ∃n z,a.2= ν n z (bk (gk LL f.text a.1))/\(gk LL f.text a.1≠ []->z=2)) ?_ (0,ν ē z' (bk LL)) ⟨by simp,ē,z',by rw [oo],by rw [oo];exact hz'⟩ (by simp) rfl
   rintro ⟨j,w⟩ ⟨ģ,n3,z3,hw,Č⟩;simp only at ģ hw Č⊢;subst hw;have hal:=vr LL f.text j;by_cases h4:j<f.text.length
   ·have hp:=qG (f.text.drop j) (by simp;omega);unfold qI at hp;have Ĕ:=sF LL f.text j;have ċ:(f.text.take f.text.length).drop j=f.text.drop j:=by rw [θ]
    have ć:=zD (f.text.drop j);by_cases h5:(ao (f.text.drop j)).2=0
    ·rw [Z h5] at Ĕ;have h6:=ć.1 h5;rw [h6] at hp;generalize (ao (f.text.drop j)).2=pn at*
     rw [<-Ĕ] at Č;have Ĺ:=ϓ bk Ĕ;generalize bk (gk LL f.text j)=CJ at*
     clear ħ ć;simp (maxSteps:=9^9) (disch:=omega) [-F,-H,-C,-I,-J,om,h3,h4,Ą,Ā,hp,ċ];exact ⟨j+1,_,⟨by omega,n3,z3,by rw [Ĺ],Č⟩,by omega,rfl,by simp⟩
    ·rw [δ h5] at Ĕ;have h6: ¬ (ao (f.text.drop j)).1=0:=fun h=>h5 (ć.2 h);obtain ⟨n4,z4,q1,q2⟩:=xr n3 z3 (gk LL f.text j) Č (by omega) (4,(ao (f.text.drop j)).1);rw [<-Ĕ] at q1 q2;unfold im at q1;simp only at q1;generalize (ao (f.text.drop j)).2=pn at*
     generalize (ao (f.text.drop j)).1=pu at*
     have h7:(pu !=0)=true:=by simpa using h6
     clear ħ ć Ĕ;generalize bk (gk LL f.text j)=CJ at*
     simp (maxSteps:=9^9) (disch:=omega) [-F,-H,-C,-I,-J,om,h3,h4,Ą,Ā,hp,ċ,h6,h7,ab,q1];exact ⟨j+1,_,⟨by omega,n4,z4,rfl,q2⟩,by omega,rfl,by simp⟩
   ·obtain rfl:j=f.text.length:=by omega
    rw [<-ħ] at Č hal⊢;clear ħ;simp (maxSteps:=9^9) (disch:=omega) [-F,-H,-C,-I,-J,om,h3,Ą,Ā];cases ob with
    | false=>exact ⟨k+1,_,.inl ⟨⟨by omega,.inr ⟨n3,z3,rfl,Č⟩,by omega⟩,by omega,⟨rfl,by simp⟩,rfl⟩⟩
    | true=>exact ⟨k+1,_,.inr ⟨⟨by omega,.inr ⟨n3,z3,rfl,Č⟩,by omega,by simp⟩,by omega,⟨rfl,by simp⟩,rfl⟩⟩
 ·obtain rfl:k=Ê CH:=by omega
  have Œ:=um;have hAl:(eD u CH (Ê CH)).length<1000000:=by omega
  have hcg: ∀i (h:i<(eD u CH (Ê CH)).length),(bk (eD u CH (Ê CH)))[i]?=M (Α [Q U (eD u CH (Ê CH))[i].1,Q U (eD u CH (Ê CH))[i].2]):=fun i h=>get_map _ _ h;have ě:=zC (eD u CH (Ê CH));have hcell:bk [(1,u),(2,u)]= [Α [Q U 1,Q U u],Α [Q U 2,Q U u]]:=rfl;clear hE hF Œ;generalize eD u CH (Ê CH)=S at*
  rcases ġ with ⟨rfl,rfl⟩ | ⟨n3,z3,rfl,Č⟩
  case' inl=>obtain rfl:=hob rfl
  case inl=>
   simp (maxSteps:=9^9) (disch:=omega) [-F,-H,-C,-I,-J,om,Ā]
   refine Wp.az (fun (i:ο)=>2-i) (fun i=> [K,M (Q U root),M (η lang),K,M (φ 0 0),K,K,K,K,K,M (ύ 2 2),K,K,K,K,M (ύ 3 i),M (Q U i),K,K,K,K,K,K,K,K,K,K,K,K,K,K,K,K,K,K,K,K,K,K]) (fun i=> [π 26 [ν c.ln c.lz L1,ν c.bn c.bz L2,ν c.sn c.sz L3],π 49 [Q U root,η lang,ν K 3 AS],ϋ ⟨ξ,M 78,K⟩ 2 [Α [Q U 1,Q U u],Α [Q U 2,Q U u]],ϋ ⟨ξ,M 99,K⟩ 3 (aN ((([(1,u),(2,u)]:κ Cell).take i).map fun z=>(z,val z)))])
    (fun i=>i<=2) ?_ 0 (by omega) (by simp) (by simp [aN])
   intro i Ă;have v1:=wv (1,u);have v2:=wv (2,u);unfold im at v1 v2;simp only at v1 v2;clear hcg wv;have:i=0\/i=1\/i=2:=by omega
   rcases this with rfl | rfl | rfl
   ·simp (maxSteps:=9^9) (disch:=omega) [-F,-H,-C,-I,-J,om,v1,ab,aN,lR];exact ⟨1,by omega,by omega,⟨by omega,by omega⟩,by simp⟩
   ·simp (maxSteps:=9^9) (disch:=omega) [-F,-H,-C,-I,-J,om,v2,ab,aN,lR];exact ⟨2,by omega,by omega,⟨by omega,by omega⟩,by simp⟩
   ·simp (maxSteps:=9^9) (disch:=omega) [-F,-H,-C,-I,-J,om,ab,aN,lR]
  case inr=>
   generalize bk S=E at*
   simp (maxSteps:=9^9) (disch:=omega) [-F,-H,-C,-I,-J,om,Ā]
   refine Wp.az (fun (i:ο)=>Ê S-i) (fun i=> [K,M (Q U root),M (η lang),K,M (φ 0 0),K,K,K,K,K,M (ν n3 z3 E),K,K,K,K,M (ύ 3 i),M (Q U i),K,K,K,K,K,K,K,K,K,K,K,K,K,K,K,K,K,K,K,K,K,K]) (fun i=> [π 26 [ν c.ln c.lz L1,ν c.bn c.bz L2,ν c.sn c.sz L3],π 49 [Q U root,η lang,ν K 3 AS],ϋ ⟨ob,M 78,K⟩ 2 [Α [Q U 1,Q U u],Α [Q U 2,Q U u]],ϋ ⟨ξ,M 99,K⟩ 3 (aN ((S.take i).map fun z=>(z,val z)))])
    (fun i=>i<=Ê S) ?_ 0 (by omega) (by simp) (by simp [aN])
   intro i Ă;by_cases h1:i<Ê S
   ·have ą:=hcg i h1;have hv:=wv S[i];obtain rfl:=Č (ne_of_lt h1);have Ē:S.take (i+1)=S.take i++ [S[i]]:=mD S h1;have ĝ:(aN ((S.take i).map fun z=>(z,val z))).length=i:=by simp [aN];omega
    have hnew:aN ((S.take (i+1)).map fun z=>(z,val z))=aN ((S.take i).map fun z=>(z,val z))++ [Α [Q U S[i].1,Q U S[i].2,η (val S[i])]]:=by unfold aN;rw [Ē,ϐ,ϐ];rfl
    unfold im at hv;generalize val S[i]=vv at*
    generalize S[i]=q at*
    generalize aN ((S.take i).map fun z=>(z,val z))=RR at*
    clear hcg Ē wv;simp (maxSteps:=9^9) (disch:=omega) [-F,-H,-C,-I,-J,om,h1,ě,ą,hv,ab,ĝ];exact ⟨i+1,by omega,by omega,⟨rfl,by simp⟩,by rw [<-List.map_take];exact hnew.symm⟩
   ·obtain rfl:i=Ê S:=by omega
    rw [θ];have ĝ:(aN (S.map fun z=>(z,val z))).length=Ê S:=by simp [aN]
    generalize aN (S.map fun z=>(z,val z))=RR at*
    simp (maxSteps:=9^9) (disch:=omega) [-F,-H,-C,-I,-J,om,ě,ĝ]
def Kc (o:μ ae):AV:= .aK [η (o.getD []),Ι o.isSome]
theorem RM (nl:μ Φ) (z:ο) (l:κ (Cell×ae)) (hz:l≠ []->z=3) (hl:Ê l<1000000) (hv: ∀u,((ax l (4,u)).getD []).length<=1000) (s:ae) (hs:Ê s<=10000):
  ar cfg 85 [ν nl z (aN l),η s] []=M (Kc (cC (fun u=>ax l (4,u)) s), []):=by
 refine aa aep abD ?_;have w:=fun u:Int=>uu nl z l hz hl (4,u);unfold im at w;simp only at w;generalize Ĩ:(fun u=>ax l (4,u))=look at*
 have hlk: ∀u,ax l (4,u)=look u:=fun u=>by rw [<-Ĩ]
 simp only [hlk] at w hv;clear hlk Ĩ;have ď:=aS l;generalize aN l=E at*
 simp (maxSteps:=9^9) (disch:=omega) [-F,-H,-C,-I,-J,om,abE];refine Wp.az (fun (a:ae×ae)=>a.1.length) (fun a=> [M (ν nl z E),M (η a.1),K,K,M (η a.2),K,K,K,K,K,K,K,K,K,K]) (fun _=> []) (fun a=>cC look s=(cC look a.1).map (a.2++ ·)/\a.1.length<=10000/\a.2.length<=1000*(10000-a.1.length)) ?_ (s, []) ⟨by simp,hs,by simp⟩ (by simp) rfl;rintro ⟨t,out⟩ ⟨hi,ċ,Ĉ⟩;simp only at hi ċ Ĉ⊢;rw [hi];clear hi;cases t with
 | nil=>simp (maxSteps:=9^9) (disch:=omega) [-F,-H,-C,-I,-J,om,wy,Kc]
 | cons x r=>
  have hp:=qG (x::r) (by omega);unfold qI at hp;have ĝ:(x::r).length=Ê r+1:=rfl;by_cases h0:(ao (x::r)).2=0
  ·rw [ug look _ _ h0];rw [h0] at hp;generalize (ao (x::r)).1=p1 at*
   rw [ĝ] at ċ Ĉ;clear hv w;simp (maxSteps:=9^9) (disch:=omega) [-F,-H,-C,-I,-J,om,hp,ĝ];exact ⟨r,out++ [x],⟨by cases cC look r <;> simp,by omega,by simp;omega⟩,by omega,by simp⟩
  ·rw [qZ look _ h0];obtain ⟨q1,q2,q3,q4,q5⟩:=(c7 (x::r)).resolve_left (fun h=>h0 (by rw [h]));obtain ⟨n,hn⟩: ∃n:ο,(ao (x::r)).2=n:=⟨(ao (x::r)).2.toNat,by omega⟩;rw [hn] at hp q3 q4 h0⊢;rw [ω];have w1:=w (ao (x::r)).1;have ň:=hv (ao (x::r)).1;generalize (ao (x::r)).1=p1 at*
   clear w hv;have hne:(x::r)≠ []:=by simp
   generalize x::r=t at*
   have ş: ¬ (n:Int)=0:=h0;have į:n<=Ê t:=by omega
   have Ŋ:(t.drop n).length=Ê t-n:=by simp
   clear hn q1 q2 q5;generalize look p1=lp at*
   cases lp with
   | none=>simp (maxSteps:=9^9) (disch:=omega) [-F,-H,-C,-I,-J,om,hp,hne,ş,w1,į,ď,ab,Kc]
   | some y=>simp only [ό] at ň;simp (maxSteps:=9^9) (disch:=omega) [-F,-H,-C,-I,-J,om,hp,hne,ş,w1,į,ď,ab];exact ⟨t.drop n,out++y,⟨by cases cC look (t.drop n) <;> simp,by omega,by simp;omega⟩,by omega,by simp⟩
def WE (a:ae):ο->ο->μ (ο×ae)->μ (ο×ae)
 | 0,_,o=>o
 | k+1,n,o=>WE a k (n+1) (sy ag a n o)
def hdO (lev:ο) (title:ae):μ (ο×ae):=if lev=0 then K else M (lev,title)
def zF:μ SV->AV
 | none=> .aK [Α [Q U 0,Q U 0,Q U 0,η [],η [],ν (M Θ) 0 []],Ι ξ]
 | some x=> .aK [Α [Q U 0,Q U 0,Q U x.level,η x.mark,η x.title,ν K 3 (x.facts.map DJ)],Ι Θ]
theorem Gz {a:ae} {n:ο} {t:ae} (h:y5 ag a=M (n,t)):1<=n/\n<=4:=by
 rw [<-Bl] at h;unfold pO at h;cases hc:ee a with
 | none=>rw [hc] at h;cases h
 | some p=>
  obtain ⟨w,r⟩:=p;rw [hc] at h;simp only at h;cases hu:ag r with
  | none=>rw [hu] at h;cases h
  | some t'=>
   rw [hu] at h;simp only at h;split at h
   ·cases h
   ·injection h with h;injection h with h1 h2;have:=F0 w;omega
theorem pZ: ∀(s cur:ae),(cw cur s).1.length<=Ê s
 | [],cur=>by simp [cw]
 | x::s,cur=>by
  unfold cw;split
  ·have:=pZ s [];simp;omega
  ·have:=pZ s (cur++ [x]);simp;omega
theorem zG {line:ae}: ∀(k e:ο) {n:ο} {t:ae},oG ag line k e=M (n,t)->e<=n/\n<e+k
 | 0,e,n,t,h=>by cases h
 | k+1,e,n,t,h=>by
  unfold oG at h;split at h
  ·split at h
   ·have:=zG k (e+1) h;omega
   ·cases h;omega
  ·have:=zG k (e+1) h;omega
def fcI (FR:μ (ο×ae)) (line:ae) (e:ο):μ (ο×ae)->Prop
 | none=>FR=oG ag line (65-e) e
 | some p=>FR=M p
def GA:μ (ο×ae)->μ ae->μ (κ (ο×ae))->μ SV
 | some (n,t),M m,M f=>M ⟨n,t,m,f⟩
 | _,_,_=>K
theorem wH (hd:ae->μ (ο×ae)) (mk:ae->μ ae) (fs:κ ae->μ (κ (ο×ae))) (a b:ae) (r:κ ae):ic hd mk fs (M (a::b::r))=GA (hd a) (mk b) (fs r):=by unfold ic GA;rfl
theorem RN (s:ae) (hs:Ê s<900000) (hp: ∀p∈(cw [] s).1,Ê p<190000):ar cfg 82 [η s] []=M (zF (pP ag s), []):=by
 refine aa aeq abG ?_;obtain ⟨nl,w1⟩:=O3 s (by omega);unfold pP y4;generalize hP:(cw [] s).1=P at*
 cases hok:(cw [] s).2 with
 | false=>rw [hok] at w1;simp (maxSteps:=9^9) (disch:=omega) [-F,-H,-C,-I,-J,om,O8,w1,ab,ic,zF]
 | true=>
  rw [hok] at w1;rw [Z rfl]
  match P,hp with
  | [],_=>simp (maxSteps:=9^9) (disch:=omega) [-F,-H,-C,-I,-J,om,O8,w1,ab,ic,zF]
  | [a],_=>simp (maxSteps:=9^9) (disch:=omega) [-F,-H,-C,-I,-J,om,O8,w1,ab,ic,zF,au]
  | a::b::r,hp=>
   have ha:=hp a (by simp);have hb:=hp b (by simp);obtain ⟨mk,mq,w2,w3⟩:=zB b jt (by omega) (by decide);rw [wH,w3];unfold jt at w2;have ĕ:(au (a::b::r)).length=Ê r+2:=by simp
   have ū:(au (a::b::r))[0]?=M (η a):=rfl;have Ŭ:(au (a::b::r))[1]?=M (η b):=rfl;have œ: ∀k (h:k<Ê r),(au (a::b::r))[k+2]?=M (η r[k]):=fun k h=>by simp [au,h]
   have ĝ:Ê r<1000000:=by have:=pZ s [];rw [hP] at this;simp at this;omega
   have Ŕ: ∀k (h:k<Ê r),r[k].length<190000:=fun k h=>hp _ (by simp);clear hp hP hok;obtain ⟨ĥ,hRES⟩: ∃ĥ,ĥ=zF (GA (y5 ag a) (if mq=Θ then M mk else K) (ma ag 0 r)):=⟨_,rfl⟩;rw [<-hRES];generalize au (a::b::r)=E at*
   obtain ⟨BX,ŕ⟩: ∃BX:ο->ae->ae->κ (ο×ae)->κ af,BX=fun (lev:ο) mark title fs=> [π 74 [Q U 0,Q U 0,Q U 0,η [],η [],ύ 1 0],ϋ ⟨ξ,M 76,K⟩ 3 [],π 74 [Q U 0,Q U 0,Q U lev,η mark,η title,ύ 3 (Ê fs)],ϋ ⟨ξ,M 76,K⟩ 3 (fs.map DJ)]:=⟨_,rfl⟩;simp (maxSteps:=9^9) (disch:=omega) [-F,-H,-C,-I,-J,om,O8,w1,ab,ĕ];refine Wp.az (fun (x:ο×ο×ae)=>5-x.1) (fun x=> [K,M (φ 0 0),K,M (ν nl 1 E),K,M (φ 2 0),M (Q U x.1),K,K,K,K,K,K,K,K,K,K,K,K,K,K,K,K,K,K,K,K,K,K,K,K,K,K,K,K,K,K,K,K,K]) (fun x=>BX x.2.1 [] x.2.2 []) (fun x=>y5 ag a=WE a (5-x.1) x.1 (hdO x.2.1 x.2.2)/\1<=x.1/\x.1<=5) ?_ (1,0, []) ⟨rfl,by simp,by simp⟩ (by simp) (by simp [ŕ]);rintro ⟨n,lev,title⟩ ⟨hd,Ŗ,hn5⟩;simp only at hd Ŗ hn5⊢;by_cases h1:n<5
   ·have ht:=xo (n:Int) (by omega) (by omega);rw [<-y9 (by omega) (by omega),ω] at ht;obtain ⟨t,q,w4,w5⟩:=zB a (cU n) (by omega) (by unfold cU;split;decide;split;decide;split;decide;decide);rw [show 5-n=(5-(n+1))+1 by omega] at hd;unfold WE sy at hd;rw [w5] at hd;generalize cU n=tg at*
    clear w5 w2 w3 hRES œ Ŕ;subst ŕ;cases q with
    | false=>rw [δ (by simp)] at hd;simp (maxSteps:=9^9) (disch:=omega) [-F,-H,-C,-I,-J,om,h1,ū,ĕ,ht,w4,ab];exact ⟨n+1,lev,title,⟨hd,by omega,by omega⟩,by omega,by simp⟩
    | true=>
     rw [Z rfl] at hd;simp only at hd;by_cases he:t= []
     ·rw [Z he] at hd;subst he;simp (maxSteps:=9^9) (disch:=omega) [-F,-H,-C,-I,-J,om,h1,ū,ĕ,ht,w4,ab];exact ⟨n+1,lev,title,⟨hd,by omega,by omega⟩,by omega,by simp⟩
     ·rw [δ he] at hd;simp (maxSteps:=9^9) (disch:=omega) [-F,-H,-C,-I,-J,om,h1,ū,ĕ,ht,w4,ab,he];exact ⟨n+1,n,t,⟨by rw [hd];unfold hdO;rw [δ (by omega)],by omega,by omega⟩,by omega,by simp⟩
   ·obtain rfl:n=5:=by omega
    have Ħ:y5 ag a=hdO lev title:=hd;clear hd;rw [Ħ] at hRES;unfold hdO at hRES;have ā:0<lev->lev<=4:=fun h=>(Gz (a:=a) (n:=lev) (t:=title) (by rw [Ħ];unfold hdO;rw [δ (by omega)])).2;by_cases hl0:lev=0
    ·subst hl0;rw [Z rfl] at hRES;simp only [GA] at hRES;subst hRES ŕ;clear œ Ŕ;simp (maxSteps:=9^9) (disch:=omega) [-F,-H,-C,-I,-J,om,Ŭ,ĕ,w2,ab,zF]
    ·rw [δ hl0] at hRES;cases mq with
     | false=>simp only [GA] at hRES;subst hRES ŕ;clear œ Ŕ;simp (maxSteps:=9^9) (disch:=omega) [-F,-H,-C,-I,-J,om,Ŭ,ĕ,w2,ab,zF,hl0]
     | true=>
      rw [Z rfl] at hRES;have ŗ: ¬ (lev:Int)=0:=by omega
      have hl0b:((lev:Int)==0)=false:=by simpa using ŗ
      have hBX2:=ŕ;have hl4:=ā (by omega);subst hBX2;simp (maxSteps:=9^9) (disch:=omega) [-F,-H,-C,-I,-J,om,Ŭ,ĕ,w2,ab,ŗ,hl0b];clear w2 w3 ū Ŭ ā Ħ;obtain ⟨Fss,ĺ⟩: ∃Fss,Fss=ma ag 0 r:=⟨_,rfl⟩;rw [<-ĺ] at hRES
      refine Wp.az (fun (x:ο×ο×κ (ο×ae))=>Ê r+2-x.1) (fun x=> [K,M (φ 0 0),K,M (ν nl 1 E),K,M (φ 2 0),K,K,K,K,K,M (Q U x.2.1),M (Q U x.1),K,K,K,K,K,K,K,K,K,K,K,K,K,K,K,K,K,K,K,K,K,K,K,K,K,K,K]) (fun x=> [π 74 [Q U 0,Q U 0,Q U 0,η [],η [],ύ 1 0],ϋ ⟨ξ,M 76,K⟩ 3 [],π 74 [Q U 0,Q U 0,Q U lev,η mk,η title,ύ 3 x.2.2.length],ϋ ⟨ξ,M 76,K⟩ 3 (x.2.2.map DJ)])
       (fun x=>Fss=(ma ag x.2.1 (r.drop (x.1-2))).map (x.2.2++ ·)/\2<=x.1/\x.1<=Ê r+2/\x.2.1<=64/\x.2.2.length<=x.2.1) ?_ (2,0, []) ⟨by simpa using ĺ,by simp,by simp,by simp,by simp⟩ (by simp) (by simp)
      clear ĺ;rintro ⟨k,last,fs⟩ ⟨hf,hk2,ĭ,hla,š⟩;simp only at hf hk2 ĭ hla š⊢;by_cases h2:k<Ê r+2
      ·have ŭ:=œ (k-2) (by omega);rw [show k-2+2=k by omega] at ŭ;rw [W (show k-2<Ê r by omega)] at hf;have hlp:=Ŕ (k-2) (by omega);rw [show k-2+1=k+1-2 by omega] at hf;clear œ Ŕ;generalize r[k-2]=line at*
       unfold ma at hf;obtain ⟨FR,Ř⟩: ∃FR,FR=oG ag line (64-last) (last+1):=⟨_,rfl⟩;rw [<-Ř] at hf
       have hFb: ∀n t,FR=M (n,t)->last<n/\n<=64:=fun n t h=>by
        rw [Ř] at h;have:=zG _ _ h;omega
       simp (maxSteps:=9^9) (disch:=omega) [-F,-H,-C,-I,-J,om,h2,ĕ]
       refine Wp.az (fun (x:ο×μ (ο×ae))=>130-2*x.1+(if x.2.isSome then 0 else 1)) (fun x=> [K,M (φ 0 0),K,M (ν nl 1 E),K,M (φ 2 0),K,K,K,K,K,M (Q U (match x.2 with | some p=>p.1 | none=>last:ο)),M (Q U k),M (Ι x.2.isSome),M (Q U x.1),K,K,K,K,K,K,K,K,K,K,K,K,K,K,K,K,K,K,K,K,K,K,K,K,K]) (fun x=> [π 74 [Q U 0,Q U 0,Q U 0,η [],η [],ύ 1 0],ϋ ⟨ξ,M 76,K⟩ 3 [],π 74 [Q U 0,Q U 0,Q U lev,η mk,η title,ύ 3 (fs++x.2.toList).length],ϋ ⟨ξ,M 76,K⟩ 3 ((fs++x.2.toList).map DJ)])
        (fun x=>fcI FR line x.1 x.2/\1<=x.1/\x.1<=65) ?_ (last+1,K) ⟨by show FR=_;rw [Ř];congr 1;omega,by simp,by simp;omega⟩ (by simp) (by simp)
       rintro ⟨e,o⟩ ⟨hI,he1,he5⟩;simp only at hI he1 he5⊢;cases o with
       | some p=>have đ:FR=M p:=hI;subst đ;obtain ⟨pn,pt⟩:=p;obtain ⟨Ō,ľ⟩:=hFb pn pt rfl;clear hFb hI Ř;simp only at hf;clear hRES;simp (maxSteps:=9^9) (disch:=omega) [-F,-H,-C,-I,-J,om,h2,ĕ];exact ⟨k+1,pn,fs++ [(pn,pt)],⟨by rw [hf];cases ma ag pn (r.drop (k+1-2)) <;> simp,by omega,by omega,by omega,by simp;omega⟩,by omega,⟨rfl,by simp⟩,by simp,by simp⟩
       | none=>
        have đ:FR=oG ag line (65-e) e:=hI;by_cases h3:e<65
        ·rw [show 65-e=(65-(e+1))+1 by omega] at đ;unfold oG at đ;have hit:=ve (e:Int) (by omega) (by omega);rw [ω] at hit;obtain ⟨t,q,w4,w5⟩:=zB line (kT e) (by omega) (by unfold kT;split <;> simp);rw [w5] at đ;rw [<-hit] at w4;clear hFb Ř w5 hit hI;cases q with
         | false=>rw [δ (by simp)] at đ;simp (maxSteps:=9^9) (disch:=omega) [-F,-H,-C,-I,-J,om,h3,ŭ,ĕ,w4,ab,oL];exact ⟨e+1,K,⟨đ,by omega,by omega⟩,by simp;omega,by simp⟩
         | true=>
          rw [Z rfl] at đ;simp only at đ;by_cases het:t= []
          ·rw [Z het] at đ;subst het;simp (maxSteps:=9^9) (disch:=omega) [-F,-H,-C,-I,-J,om,h3,ŭ,ĕ,w4,ab,oL];exact ⟨e+1,K,⟨đ,by omega,by omega⟩,by simp;omega,by simp⟩
          ·rw [δ het] at đ;simp (maxSteps:=9^9) (disch:=omega) [-F,-H,-C,-I,-J,om,h3,ŭ,ĕ,w4,ab,het,oL,DJ];exact ⟨e+1,M (e,t),⟨đ,by omega,by omega⟩,by simp;omega,⟨rfl,rfl,by simp⟩,rfl,rfl⟩
        ·obtain rfl:e=65:=by omega
         have hI3:FR=none:=đ;subst hI3;simp only at hf;rw [hf] at hRES;subst hRES;simp (maxSteps:=9^9) (disch:=omega) [-F,-H,-C,-I,-J,om,ab,GA,zF]
      ·obtain rfl:k=Ê r+2:=by omega
       rw [O (by omega)] at hf;simp only [ma,Ε,Ζ] at hf;rw [hf] at hRES;simp only [GA] at hRES;subst hRES;simp (maxSteps:=9^9) (disch:=omega) [-F,-H,-C,-I,-J,om,ĕ,ab,zF]
theorem GB {look:Int->μ ae} (h: ∀u,((look u).getD []).length<=1000) (s:ae):((cC look s).getD []).length<=1000*Ê s:=by
 have h1:=wC h s;rw [qx look _ s (ρ _)];split
 ·simp
 ·simpa using h1
theorem zH {s:ae}: ∀p∈(cw [] s).1,p∈splitB 10 s:=by
 intro p hp;rw [iZ] at hp
 have hh:oc [] (splitB 10 s)=splitB 10 s:=by
  cases hs:splitB 10 s with
  | nil=>rfl
  | cons p r=>rfl
 rw [hh] at hp;exact (List.dropLast_sublist _).subset hp
theorem IH {v:ae} {x:SV} (h:pP ag v=M x):1<=x.level/\x.level<=4:=by
 unfold pP at h;cases hP:y4 v with
 | none=>rw [hP] at h;cases h
 | some P=>
  rw [hP] at h
  match P with
  | []=>cases h
  | [a]=>cases h
  | a::b::r=>
   rw [wH] at h;unfold GA at h;split at h
   ·rename_i n t m f h1 h2 h3;injection h with h;subst h;exact Gz h1
   ·cases h
theorem O9 (unit:Int) (nl:μ Φ) (z:ο) (l:κ (Cell×ae)) (hz:l≠ []->z=3) (hl:Ê l<1000000)
  (hv1:((ax l (1,unit)).getD []).length<=10000) (hv2:((ax l (2,unit)).getD []).length<900000) (hv3: ∀p∈splitB 10 ((ax l (2,unit)).getD []),Ê p<=10000) (hv4: ∀k u,k=3\/k=4->((ax l (k,u)).getD []).length<=1000) (hv5: ∀p∈splitB 10 ((ax l (2,unit)).getD []).dropLast,Ê p<=10000):
  ar cfg 44 [Q U unit,ν nl z (aN l)] []=M (eA (cu ag unit l), []):=by
 refine aa aer abH ?_;have hE:=L6 l;have Ā:=fm l;have Ļ:=F3 l;have w1:=uu nl z l hz hl (1,unit);have w2:=uu nl z l hz hl (2,unit);have w3:=fun u:Int=>uu nl z l hz hl (3,u);have w4:=RM nl z l hz hl (fun u=>hv4 4 u (.inr rfl));have ř: ∀t:ae,Ê t<=10000->((cC (fun u=>ax l (4,u)) t).getD []).length<=10000000:=fun t ht=>by have:=GB (look:=fun u=>ax l (4,u)) (fun u=>hv4 4 u (.inr rfl)) t;omega
 unfold im at w1 w2 w3;simp only at w1 w2 w3;obtain ⟨ĥ,hRES⟩: ∃ĥ,ĥ=cu ag unit l:=⟨_,rfl⟩;rw [<-hRES];unfold cu at hRES;have ď:=aS l;generalize aN l=E at*
 simp (maxSteps:=9^9) (disch:=omega) [-F,-H,-C,-I,-J,om,abI];refine Wp.az (fun (i:ο)=>Ê l+1-i) (fun i=> [M (Q U unit),M (ν nl z E),M (φ 0 0),K,M (Q U i),K,K,K,K,K,K,K,K,K,K,K,K,K,K,K,K,K,K,K,K,K,K,K,K,K,K,K,K,K,K,K,K,K,K,K,K,K,K,K,K,K,K,K,K]) (fun _=> [π 58 [Q U 0,η [],ύ 1 0],ϋ ⟨ξ,M 129,K⟩ 3 []]) (fun i=>1<=i/\i<=Ê l+1/\vb l=vb (l.drop (i-1))) ?_ 1 ⟨by simp,by simp,by simp⟩ (by simp) (by simp);rintro i ⟨č,Ă,Ė⟩;by_cases h1:i<Ê l
 ·have hg:=hE i h1;obtain rfl:=hz (ne_of_lt h1);have hg2:=hE (i-1) (by omega);obtain ⟨r1,Ņ⟩: ∃r,r=l[i-1]:=⟨_,rfl⟩;obtain ⟨r2,ņ⟩: ∃r,r=l[i]:=⟨_,rfl⟩;rw [<-Ņ] at hg2;rw [<-ņ] at hg;have Ģ:i-1+1=i:=by omega
  have hs:=BC (l:=l) (i:=i-1) (a:=r1) (b:=r2) (by rw [Ņ];exact γ (by omega)) (by rw [Ģ,ņ];exact γ h1);rw [Ģ] at hs;have hc:=BT r1.1 r2.1;have Ş:((i:Int)-1).toNat=i-1:=by omega
  unfold im at hc;clear w1 w2 w3 w4 Ļ hE Ņ ņ ř;generalize eB r1.1 r2.1=bb at*
  cases bb with
  | true=>rw [hs,Bool.true_and] at Ė;simp (maxSteps:=9^9) (disch:=omega) [-F,-H,-C,-I,-J,om,h1,hg,hg2,hc,Ş,Ā];exact ⟨i+1,⟨by omega,by omega,by simpa using Ė⟩,by omega,by simp⟩
  | false=>rw [hs,Bool.false_and] at Ė;rw [Ė,δ (by simp)] at hRES;subst hRES;simp (maxSteps:=9^9) (disch:=omega) [-F,-H,-C,-I,-J,om,h1,hg,hg2,hc,Ş,Ā,eA,oJ,ab]
 ·have ĩ:vb l=true:=by
   rw [Ė];rcases Nat.lt_or_ge (Ê l) i with h | h
   ·rw [O (by omega)];rfl
   ·obtain rfl:i=Ê l:=by omega
    exact Ļ
  rw [ĩ,Z rfl] at hRES;clear Ļ hE Ė ĩ;unfold H7 at hRES;have ļ:(ax l (2,unit)).getD []≠ []->fV ag ((ax l (2,unit)).getD [])=pP ag ((ax l (2,unit)).getD []):=H3 ag;have hvR: ∀p∈(cw [] ((ax l (2,unit)).getD [])).1,Ê p<190000:=fun p hp=>by have:=hv3 p (zH p hp);omega
  generalize (ax l (1,unit)).getD []=num at*
  generalize (ax l (2,unit)).getD []=Ů at*
  generalize (ax l (1,unit)).isSome=b1 at*
  generalize (ax l (2,unit)).isSome=b2 at*
  by_cases hem:num= []\/Ů= []
  ·rw [Z hem] at hRES;subst hRES;clear ļ;rcases hem with rfl | rfl
   ·simp (maxSteps:=9^9) (disch:=omega) [-F,-H,-C,-I,-J,om,h1,Ā,w1,w2,ď,eA,oJ,ab]
   ·by_cases hn:num= []
    ·subst hn;simp (maxSteps:=9^9) (disch:=omega) [-F,-H,-C,-I,-J,om,h1,Ā,w1,w2,ď,eA,oJ,ab]
    ·simp (maxSteps:=9^9) (disch:=omega) [-F,-H,-C,-I,-J,om,h1,Ā,w1,w2,ď,eA,oJ,ab,hn]
  rw [δ hem] at hRES;have Ŗ:num≠ []:=fun h=>hem (.inl h);have hn2:Ů≠ []:=fun h=>hem (.inr h);have k2:=ļ hn2;rw [k2] at hRES;have k1:=RN Ů hv2 hvR;clear hem ļ hvR;cases ů:pP ag Ů with
  | none=>rw [ů] at k1 hRES;simp only [zF] at k1 hRES;subst hRES;clear w3 w4 ř;simp (maxSteps:=9^9) (disch:=omega) [-F,-H,-C,-I,-J,om,h1,Ā,w1,w2,k1,ď,eA,oJ,ab,Ŗ,hn2]
  | some x=>
   obtain ⟨lev,title,mark,facts⟩:=x;rw [ů] at k1 hRES k2;simp only [zF] at k1 hRES;obtain ⟨k4,k5⟩:=IH ů;obtain ⟨tl,ml,fl,Ű⟩:=sD (N:=10000) k2 hv5;simp only at k4 k5 tl ml fl Ű;have w5:=xo (lev:Int) (by omega) (by omega);rw [BD k4 k5] at w5;have w6:=BP num (by omega);have Ŋ:aY num<=Ê num:=Ξ;have hF:=gE3 facts;have ĸ:=bW DJ facts
   have hR2:ĥ=match (fW l (aY num+1) facts).map ((⟨aY num,cU lev,num++ [32]++title⟩::y8 (aY num+1) mark)++ ·) with | none=>(7,K) | some N=>(0,M ⟨unit,num,N⟩):=by rw [hRES];cases fW l (aY num+1) facts <;> rfl
   clear hRES;have hRES:=hR2;clear hR2;generalize facts.map DJ=FA at*
   generalize cU lev=tg at*
   have ű:IntKind.i64.wrap ((aY num:Int)+1)=aY num+1:=wrap_i64 (by omega) (by omega);clear hv3 hv5 ů k2 hv2;obtain ⟨mk,Ś⟩: ∃m,m=mark:=⟨_,rfl⟩;generalize hNO:(fW l (aY num+1) facts).map ((⟨aY num,tg,num++ [32]++title⟩::y8 (aY num+1) mark)++ ·)=NO at*
   by_cases hmk:mark= []
   case' pos=>
    obtain ⟨EB,hEB⟩: ∃EB:κ af,EB= []:=⟨_,rfl⟩;obtain ⟨N0,ś⟩: ∃N0:κ Nd,N0= [⟨aY num,tg,num++ [32]++title⟩]:=⟨_,rfl⟩;subst hmk;simp (maxSteps:=9^9) (disch:=omega) [-F,-H,-C,-I,-J,om,h1,Ā,w1,w2,k1,ď,ab,Ŗ,hn2,w5,w6,ĸ]
   case' neg=>
    obtain ⟨EB,hEB⟩: ∃EB:κ af,EB= [ϋ ⟨ξ,M 129,K⟩ 3 [Α [Q U ((aY num:Int)+1),η [109,97,114,107],η mark]],.dead]:=⟨_,rfl⟩;obtain ⟨N0,ś⟩: ∃N0:κ Nd,N0= [⟨aY num,tg,num++ [32]++title⟩,⟨(aY num:Int)+1, [109,97,114,107],mark⟩]:=⟨_,rfl⟩;simp (maxSteps:=9^9) (disch:=omega) [-F,-H,-C,-I,-J,om,h1,Ā,w1,w2,k1,ď,ab,Ŗ,hn2,w5,w6,ĸ,hmk,ű]
   all_goals
    refine Wp.az (fun (x:ο×κ Nd)=>facts.length-x.1) (fun x=> [K,M (ν nl z E),M (φ 0 0),K,K,K,K,M (φ 2 0),K,M (Q U (aY num)),M (φ 4 0),M (Q U x.1),K,K,K,K,K,K,K,K,K,K,K,K,K,K,K,K,K,K,K,K,K,K,K,K,K,K,K,K,K,K,K,K,K,K,K,K,K]) (fun x=> [π 58 [Q U 0,η [],ύ 1 0],ϋ ⟨ξ,M 129,K⟩ 3 [],π 74 [Q U 0,Q U 0,Q U lev,η mk,η title,ν K 3 FA],ϋ ⟨ξ,M 129,K⟩ 3 (x.2.map dF),π 58 [Q U unit,η num,ύ 3 x.2.length]]++EB)
     (fun x=>NO=(fW l (aY num+1) (facts.drop x.1)).map (x.2++ ·)/\x.1<=facts.length/\x.2.length<=x.1+2) ?_ (0,N0) ⟨by rw [<-hNO,ś];simp_all [y8],by simp,by rw [ś];simp⟩ (by simp) (by rw [hEB,ś,Ś];simp [dF])
    subst hEB Ś;clear hNO ś;rintro ⟨i,N⟩ ⟨hi,Ă,ō⟩;simp only at hi Ă ō⊢;by_cases q1:i<facts.length
    ·have hg:=hF i q1;obtain ⟨ftl,fel⟩:=Ű _ (ι q1);rw [W q1] at hi;simp only [fW] at hi;have x1:=w3 facts[i].1;have x2:=w4 facts[i].2 ftl;have Ō:=hv4 3 facts[i].1 (.inl rfl);have ľ:=ř facts[i].2 ftl;have ķ:=bW dF N;clear w1 w2 k1 w3 w4 w5 w6 hF Ű ř;generalize facts[i]=f at*
     generalize ax l (3,(f.1:Int))=lab at*
     generalize cC (fun u=>ax l (4,u)) f.2=xt at*
     unfold Kc at x2;cases lab with
     | none=>simp only [Ν] at hi;subst hi;simp only at hRES;subst hRES;simp (maxSteps:=9^9) (disch:=omega) [-F,-H,-C,-I,-J,om,q1,hg,ab,x1,x2,ű,ķ,ĸ,ď,eA,oJ]
     | some lb=>
      cases xt with
      | none=>simp only [Ν] at hi;subst hi;simp only at hRES;subst hRES;simp (maxSteps:=9^9) (disch:=omega) [-F,-H,-C,-I,-J,om,q1,hg,ab,x1,x2,ű,ķ,ĸ,ď,eA,oJ]
      | some t=>simp only [ό] at Ō ľ;clear hRES;simp (maxSteps:=9^9) (disch:=omega) [-F,-H,-C,-I,-J,om,q1,hg,ab,x1,x2,ű,ķ,ĸ,ď];exact ⟨i+1,N++ [⟨(aY num:Int)+1, [112],lb++58::32::t⟩],⟨by rw [hi];cases fW l (↑(aY num)+1) (facts.drop (i+1)) <;> simp,by omega,by simp;omega⟩,by omega,by simp,by simp [dF],by simp⟩
    ·rw [O (by omega)] at hi;simp only [fW,Ε,Ζ] at hi;subst hi;simp only at hRES;subst hRES;clear w1 w2 w3 w4 w5 w6 k1 hF Ű ř;simp (maxSteps:=9^9) (disch:=omega) [-F,-H,-C,-I,-J,om,q1,ab,ĸ,eA,cH]
