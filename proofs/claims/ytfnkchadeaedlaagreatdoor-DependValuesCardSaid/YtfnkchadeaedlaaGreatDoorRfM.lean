/-
 The reference's Check, part by part: Has, letters, before, languages. The reference's labels of a catalog, and facts of a sheet. The reference's facts of a sheet. The reference's way among sheets: Index, Chain, in. The reference's choices: prefer, fact, choose, name, cite. The reference's check of sheets, and Check. The reference's pieces, numbers and tags. The reference's numbers of sections, and what it answers for catalogs that are right: Choose, Name, Cite, Number. What the reference answers: Number, Choose, Name, Cite. The reference's sections and Compile. The reference's Compile.
-/
import Derived.Test.YtfnkchadeaedlaaGreatDoorAdM
import Derived.Test.YtfnkchadeaedlaaGreatDoorCatM
set_option linter.all false
namespace Go.Proofs.YtfnkchadeaedlaaGreatDoor
open Go.Am
set_option maxRecDepth 10000
set_option maxHeartbeats 4000000
theorem oc (nl:Option Bool) (z:Nat) (L:List af) (hz:L≠ []→z=1) (hL:L.length<1000000) (w:af):ar cfg 52 [.ah nl z (ao L),.str w] []=some (.bool (bX L w), []):=by
 refine ab Wv Ua ?_;simp (maxSteps:=9^9) (disch:=omega) [-List.map_replicate,-List.map_set,-List.getD_eq_getElem?_getD,-getElem?_pos,-getElem?_neg,om,Ub,iT];refine Wp.aA (fun (i:Nat)=>L.length-i) (fun i=> [some (.ah nl z (ao L)),some (.str w),none,some (.int .i64 i),none,none]) (fun _=> []) (fun i=>bX L w=bX (L.drop i) w∧i≤L.length) ?_ 0 ⟨by simp,by omega⟩ (by simp) rfl;rintro i ⟨hi,hl⟩;rw [hi];by_cases h1:i<L.length
 ·have hg:=kv L h1;obtain rfl:=hz (ne_of_lt h1);rw [zU L h1] at hi⊢;simp only [bX,List.any_cons] at hi⊢;generalize L.getD i []=x at*
  cases he:w==x with
  | true=>
   have he2:(x==w)=true:=by simpa using (beq_iff_eq.1 he).symm
   simp (maxSteps:=9^9) (disch:=omega) [-List.map_replicate,-List.map_set,-List.getD_eq_getElem?_getD,-getElem?_pos,-getElem?_neg,om,h1,hg,he2]
  | false=>
   have he2:(x==w)=false:=by rw [beq_eq_false_iff_ne] at he⊢;exact Ne.symm he
   rw [he,Bool.false_or] at hi;simp (maxSteps:=9^9) (disch:=omega) [-List.map_replicate,-List.map_set,-List.getD_eq_getElem?_getD,-getElem?_pos,-getElem?_neg,om,h1,hg,he2];exact ⟨i+1,⟨by first | exact hi | rfl | simp [bX],by omega⟩,by omega,by simp⟩
 ·rw [List.drop_eq_nil_of_le (by omega)];simp (maxSteps:=9^9) (disch:=omega) [-List.map_replicate,-List.map_set,-List.getD_eq_getElem?_getD,-getElem?_pos,-getElem?_neg,om,h1,bX]
theorem LB (s:af):ar cfg 149 [.str s] []=some (.bool (yz s), []):=by
 refine ab Uc PD ?_;unfold yz;by_cases h:s.length=2
 ·match s,h with
  | [a,b],_=>
   simp only [List.getD_cons_zero,List.getD_cons_succ]
   by_cases h1:97≤a.toNat <;> by_cases h2:a.toNat≤122 <;> by_cases h3:97≤b.toNat <;> by_cases h4:b.toNat≤122 <;>
    first
    | omega
    | simp (maxSteps:=9^9) (disch:=omega) [-List.map_replicate,-List.map_set,-List.getD_eq_getElem?_getD,-getElem?_pos,-getElem?_neg,om,Ju,h1,h2,h3,h4]
 ·have h2:((s.length:Int)==2)=false:=by simp;omega
  simp (maxSteps:=9^9) (disch:=omega) [-List.map_replicate,-List.map_set,-List.getD_eq_getElem?_getD,-getElem?_pos,-getElem?_neg,om,Ju,h,h2]
theorem Jv (e:Int) (s:af) (f:Int) (t:af):ar cfg 150 [.int .i64 e,.str s,.int .i64 f,.str t] []=some (.bool (kz e s f t), []):=by
 refine ab Ud PE ?_
 have hb:Op.bytesLess s t=decide (Lib.compareBytes s t<0):=by obtain ⟨h1,_,h3⟩:=ky s t;rw [h1,decide_eq_decide];omega
 unfold kz;rcases Int.lt_trichotomy e f with h | h | h
 ·simp (maxSteps:=9^9) (disch:=omega) [-List.map_replicate,-List.map_set,-List.getD_eq_getElem?_getD,-getElem?_pos,-getElem?_neg,om,Fx,h,hb]
 ·subst h;simp (maxSteps:=9^9) (disch:=omega) [-List.map_replicate,-List.map_set,-List.getD_eq_getElem?_getD,-getElem?_pos,-getElem?_neg,om,Fx,hb]
 ·have h1: ¬ e<f:=by omega
  have h2: ¬ e=f:=by omega
  have h3:(e==f)=false:=by simpa using h2
  simp (maxSteps:=9^9) (disch:=omega) [-List.map_replicate,-List.map_set,-List.getD_eq_getElem?_getD,-getElem?_pos,-getElem?_neg,om,Fx,h1,h2,h3,hb]
theorem G5 (nl:Option Bool) (z:Nat) (L:List af) (hz:L≠ []→z=1) (hl:L.length<1000000):ar cfg 97 [.ah nl z (ao L)] []=some (.int .i64 (j4 L), []):=by
 refine ab Ww Ue ?_;unfold j4;by_cases h0:L.length<1
 ·simp (maxSteps:=9^9) (disch:=omega) [-List.map_replicate,-List.map_set,-List.getD_eq_getElem?_getD,-getElem?_pos,-getElem?_neg,om,LC,h0]
 by_cases h8:8<L.length
 ·simp (maxSteps:=9^9) (disch:=omega) [-List.map_replicate,-List.map_set,-List.getD_eq_getElem?_getD,-getElem?_pos,-getElem?_neg,om,LC,h0,h8]
 obtain rfl:z=1:=hz (by intro h;rw [h] at h0;simp at h0);have hif:(if L.length<1∨8<L.length then 2 else dG [] L)=dG [] L:=if_neg (by omega);rw [hif];simp (maxSteps:=9^9) (disch:=omega) [-List.map_replicate,-List.map_set,-List.getD_eq_getElem?_getD,-getElem?_pos,-getElem?_neg,om,LC,h0,h8];refine Wp.aA (fun (i:Nat)=>L.length-i) (fun i=> [some (.ah nl 1 (ao L)),none,some (.int .i64 i),none,none,none,none,none,none]) (fun _=> []) (fun i=>dG [] L=dG (L.take i) (L.drop i)∧i≤L.length) ?_ 0 ⟨by simp,by omega⟩ (by simp) rfl;rintro i ⟨hi,hil⟩;rw [hi];by_cases h1:i<L.length
 ·have hg:(ao L)[i]?=some (.str L[i]):=by simp [ao,h1]
  have htk:(ao L).take i=ao (L.take i):=by simp [ao]
  have ht:=LB L[i];have hh:=oc nl 1 (L.take i) (fun _=>rfl) (by simp;omega) L[i];rw [List.drop_eq_getElem_cons h1] at hi⊢;simp only [dG] at hi⊢;rw [←kA L h1] at hi⊢;generalize L[i]=x at*
  cases he:yz x with
  | false=>rw [he] at ht;simp (maxSteps:=9^9) (disch:=omega) [-List.map_replicate,-List.map_set,-List.getD_eq_getElem?_getD,-getElem?_pos,-getElem?_neg,om,h1,hg,ht]
  | true=>
   rw [he] at hi ht;cases hb:bX (L.take i) x with
   | true=>rw [hb] at hh;simp (maxSteps:=9^9) (disch:=omega) [-List.map_replicate,-List.map_set,-List.getD_eq_getElem?_getD,-getElem?_pos,-getElem?_neg,om,h1,hg,ht,htk,hh]
   | false=>rw [hb] at hi hh;simp (maxSteps:=9^9) (disch:=omega) [-List.map_replicate,-List.map_set,-List.getD_eq_getElem?_getD,-getElem?_pos,-getElem?_neg,om,h1,hg,ht,htk,hh];exact ⟨i+1,⟨by simpa using hi,by omega⟩,by omega,by simp⟩
 ·rw [List.drop_eq_nil_of_le (by omega)];simp (maxSteps:=9^9) (disch:=omega) [-List.map_replicate,-List.map_set,-List.getD_eq_getElem?_getD,-getElem?_pos,-getElem?_neg,om,h1,dG]
theorem Jw (c:Ct) (hc:c.ok):ar cfg 98 [aO c] []=some (.int .i64 (oo c.aa c.aq), []):=by
 refine ab Wx Uf ?_;have hl:=hc.ll;have hz:=hc.lz;have hbl:=hc.bl;have hbz:=hc.bz;unfold oo aO bU;generalize c.ag.map aI=A3 at*
 generalize c.aa=L at*
 generalize c.lz=z at*
 generalize c.aq=B at*
 generalize c.bz=bz at*
 have hBl:(B.map bF).length=B.length:=by simp
 have hE: ∀k (h:k<B.length),(B.map bF)[k]?=some (.agg [.int .i64 B[k].el,.str B[k].lang,.str B[k].text,.int .i64 B[k].ix]):=fun k h=>get_map _ _ h;have hpl:al (B.map bF)=true:=ku B;generalize B.map bF=E at*
 by_cases h0:256<B.length
 ·simp (maxSteps:=9^9) (disch:=omega) [-List.map_replicate,-List.map_set,-List.getD_eq_getElem?_getD,-getElem?_pos,-getElem?_neg,om,PF,h0,hBl]
 rw [if_neg h0];simp (maxSteps:=9^9) (disch:=omega) [-List.map_replicate,-List.map_set,-List.getD_eq_getElem?_getD,-getElem?_pos,-getElem?_neg,om,PF,h0,hBl];refine Wp.aA (fun (a:Nat×Option AV)=>B.length-a.1) (fun a=> [none,some (.ptr 0 0),none,some (.int .i64 a.1),none,none,none,none,none,none,none,none,a.2,none,none]) (fun _=> [.var 26 [.ah c.ln z (ao L),.ah c.bn bz E,.ah c.sn c.sz A3]]) (fun a=>ey L none B=ey L (if a.1=0 then none else B[a.1-1]?) (B.drop a.1)∧a.1≤B.length) ?_ (0,none) ⟨by simp,by simp⟩ (by simp) rfl;rintro ⟨i,o⟩ ⟨hi,hil⟩;simp only at hi hil⊢;rw [hi];clear hi;by_cases h1:i<B.length
 ·have hg:=hE i h1;obtain rfl:bz=4:=hbz (ne_of_lt h1);have hh:=oc c.ln z L hz hl B[i].lang;rw [List.drop_eq_getElem_cons h1];simp only [ey];have fin: ∃a,(ey L (some B[i]) (B.drop (i+1))=ey L (if a=0 then none else B[a-1]?) (B.drop a)∧a≤B.length)∧B.length-a<B.length-i∧(i:Int)+1=(a:Int):=⟨i+1,⟨by simp [h1],by omega⟩,by omega,by simp⟩;have hp:i≠0→ ∃p,B[i-1]?=some p∧E[i-1]?=some (.agg [.int .i64 p.el,.str p.lang,.str p.text,.int .i64 p.ix]):=fun h=>⟨B[i-1],List.getElem?_eq_getElem (by omega),hE _ (by omega)⟩;clear hE hz hbz;generalize ey L (some B[i]) (B.drop (i+1))=R at*
  generalize B[i]=x at*
  have he0:x.text= []↔x.text.length=0:=by simp
  by_cases hi0:i=0
  ·subst hi0;rw [if_pos rfl];clear hp;generalize hlv:q9 L none x=lv at*
   simp (maxSteps:=9^9) (disch:=omega) [-List.map_replicate,-List.map_set,-List.getD_eq_getElem?_getD,-getElem?_pos,-getElem?_neg,om,h1,hg,ae,hh,hBl];unfold q9 at hlv;by_cases e1:((x.el<1∨64<x.el)∨x.ix<0)∨3<x.ix
   ·rw [if_pos e1];rw [if_pos (by omega)] at hlv;subst hlv;rfl
   rw [if_neg e1];rw [if_neg (by omega)] at hlv;cases e2:bX L x.lang with
   | false=>rw [if_neg (by simp)];rw [if_pos e2] at hlv;subst hlv;rfl
   | true=>
    rw [if_pos rfl];rw [if_neg (by simp [e2])] at hlv;by_cases e3:x.text= []∨64<(x.text.length:Int)
    ·rw [if_pos e3];rw [if_pos (by rcases e3 with h | h;rw [h];simp;omega)] at hlv;subst hlv;rfl
    rw [if_neg e3];rw [if_neg (by rw [not_or,he0] at e3;omega)] at hlv;subst hlv;rw [if_pos rfl];obtain ⟨a,b1,b2,b3⟩:=fin;exact ⟨a,b1,by omega,by omega⟩
  ·obtain ⟨p,q1,q2⟩:=hp hi0;rw [if_neg hi0,q1];have c1:=Jv p.el p.lang x.el x.lang;have hi1:(i:Int)≠0:=by omega
   have hi2:((i:Int)-1).toNat=i-1:=by omega
   have hi3:(0:Int)<(i:Int):=by omega
   clear hp;generalize hlv:q9 L (some p) x=lv at*
   simp (maxSteps:=9^9) (disch:=omega) [-List.map_replicate,-List.map_set,-List.getD_eq_getElem?_getD,-getElem?_pos,-getElem?_neg,om,h1,hg,ae,hh,hi0,hi1,hi2,hi3,q2,c1,hBl];unfold q9 at hlv;by_cases e1:((x.el<1∨64<x.el)∨x.ix<0)∨3<x.ix
   ·rw [if_pos e1];rw [if_pos (by omega)] at hlv;subst hlv;rfl
   rw [if_neg e1];rw [if_neg (by omega)] at hlv;cases e2:bX L x.lang with
   | false=>rw [if_neg (by simp)];rw [if_pos e2] at hlv;subst hlv;rfl
   | true=>
    rw [if_pos rfl];rw [if_neg (by simp [e2])] at hlv;by_cases e3:x.text= []∨64<(x.text.length:Int)
    ·rw [if_pos e3];rw [if_pos (by rcases e3 with h | h;rw [h];simp;omega)] at hlv;subst hlv;rfl
    rw [if_neg e3];rw [if_neg (by rw [not_or,he0] at e3;omega)] at hlv;simp only at hlv;cases e4:kz p.el p.lang x.el x.lang with
    | false=>rw [if_neg (by simp)];rw [if_pos e4] at hlv;subst hlv;rfl
    | true=>
     rw [if_pos rfl];rw [if_neg (by simp [e4])] at hlv;by_cases e5:p.el=x.el∧ ¬ p.ix=x.ix
     ·rw [if_pos e5];rw [if_pos e5] at hlv;subst hlv;rfl
     rw [if_neg e5];rw [if_neg e5] at hlv;subst hlv;rw [if_pos rfl];exact fin
 ·rw [List.drop_eq_nil_of_le (by omega)];simp (maxSteps:=9^9) (disch:=omega) [-List.map_replicate,-List.map_set,-List.getD_eq_getElem?_getD,-getElem?_pos,-getElem?_neg,om,h1,ey,hBl]
theorem Jx (c:Ct) (hc:c.ok) (nl:Option Bool) (bz:Nat) (B:List Fc) (hbz:B≠ []→bz=3) (hbl:B.length<1000000):ar cfg 151 [aO c,.ah nl bz (B.map cU)] []=some (.int .i64 (jA c.aa B), []):=by
 refine ab Ug PG ?_;have hl:=hc.ll;have hz:=hc.lz;unfold jA aO bU;generalize c.ag.map aI=A3 at*
 generalize c.aq.map bF=A2 at*
 generalize c.aa=L at*
 generalize c.lz=z at*
 have hBl:(B.map cU).length=B.length:=by simp
 have hE: ∀k (h:k<B.length),(B.map cU)[k]?=some (.agg [.int .i64 B[k].el,.str B[k].lang,.str B[k].text]):=fun k h=>get_map _ _ h;have hpl:al (B.map cU)=true:=gn B;generalize B.map cU=E at*
 by_cases h0:32<B.length
 ·simp (maxSteps:=9^9) (disch:=omega) [-List.map_replicate,-List.map_set,-List.getD_eq_getElem?_getD,-getElem?_pos,-getElem?_neg,om,Jy,h0,hBl]
 rw [if_neg h0];simp (maxSteps:=9^9) (disch:=omega) [-List.map_replicate,-List.map_set,-List.getD_eq_getElem?_getD,-getElem?_pos,-getElem?_neg,om,Jy,h0,hBl];refine Wp.aA (fun (a:Nat×Option AV)=>B.length-a.1) (fun a=> [none,some (.ah nl bz E),some (.ptr 0 0),none,some (.int .i64 a.1),none,none,none,none,none,none,none,none,a.2,none]) (fun _=> [.var 26 [.ah c.ln z (ao L),.ah c.bn c.bz A2,.ah c.sn c.sz A3]]) (fun a=>ez L none B=ez L (if a.1=0 then none else B[a.1-1]?) (B.drop a.1)∧a.1≤B.length) ?_ (0,none) ⟨by simp,by simp⟩ (by simp) rfl;rintro ⟨i,o⟩ ⟨hi,hil⟩;simp only at hi hil⊢;rw [hi];clear hi;by_cases h1:i<B.length
 ·have hg:=hE i h1;obtain rfl:bz=3:=hbz (ne_of_lt h1);have hh:=oc c.ln z L hz hl B[i].lang;rw [List.drop_eq_getElem_cons h1];simp only [ez];have fin: ∃a,(ez L (some B[i]) (B.drop (i+1))=ez L (if a=0 then none else B[a-1]?) (B.drop a)∧a≤B.length)∧B.length-a<B.length-i∧(i:Int)+1=(a:Int):=⟨i+1,⟨by simp [h1],by omega⟩,by omega,by simp⟩;have hp:i≠0→ ∃p,B[i-1]?=some p∧E[i-1]?=some (.agg [.int .i64 p.el,.str p.lang,.str p.text]):=fun h=>⟨B[i-1],List.getElem?_eq_getElem (by omega),hE _ (by omega)⟩;clear hE hz hbz;generalize ez L (some B[i]) (B.drop (i+1))=R at*
  generalize B[i]=x at*
  have he0:x.text= []↔x.text.length=0:=by simp
  by_cases hi0:i=0
  ·subst hi0;rw [if_pos rfl];clear hp;generalize hlv:tF L none x=lv at*
   simp (maxSteps:=9^9) (disch:=omega) [-List.map_replicate,-List.map_set,-List.getD_eq_getElem?_getD,-getElem?_pos,-getElem?_neg,om,h1,hg,ae,hh,hBl];unfold tF at hlv;by_cases e1:x.el<1∨64<x.el
   ·rw [if_pos e1];rw [if_pos e1] at hlv;subst hlv;rfl
   rw [if_neg e1];rw [if_neg e1] at hlv;cases e2:bX L x.lang with
   | false=>rw [if_neg (by simp)];rw [if_pos e2] at hlv;subst hlv;rfl
   | true=>
    rw [if_pos rfl];rw [if_neg (by simp [e2])] at hlv;by_cases e3:x.text= []∨4096<(x.text.length:Int)
    ·rw [if_pos e3];rw [if_pos (by rcases e3 with h | h;rw [h];simp;omega)] at hlv;subst hlv;rfl
    rw [if_neg e3];rw [if_neg (by rw [not_or,he0] at e3;omega)] at hlv;subst hlv;rw [if_pos rfl];obtain ⟨a,b1,b2,b3⟩:=fin;exact ⟨a,b1,by omega,by omega⟩
  ·obtain ⟨p,q1,q2⟩:=hp hi0;rw [if_neg hi0,q1];have c1:=Jv p.el p.lang x.el x.lang;have hi1:(i:Int)≠0:=by omega
   have hi2:((i:Int)-1).toNat=i-1:=by omega
   have hi3:(0:Int)<(i:Int):=by omega
   clear hp;generalize hlv:tF L (some p) x=lv at*
   simp (maxSteps:=9^9) (disch:=omega) [-List.map_replicate,-List.map_set,-List.getD_eq_getElem?_getD,-getElem?_pos,-getElem?_neg,om,h1,hg,ae,hh,hi0,hi1,hi2,hi3,q2,c1,hBl];unfold tF at hlv;by_cases e1:x.el<1∨64<x.el
   ·rw [if_pos e1];rw [if_pos e1] at hlv;subst hlv;rfl
   rw [if_neg e1];rw [if_neg e1] at hlv;cases e2:bX L x.lang with
   | false=>rw [if_neg (by simp)];rw [if_pos e2] at hlv;subst hlv;rfl
   | true=>
    rw [if_pos rfl];rw [if_neg (by simp [e2])] at hlv;by_cases e3:x.text= []∨4096<(x.text.length:Int)
    ·rw [if_pos e3];rw [if_pos (by rcases e3 with h | h;rw [h];simp;omega)] at hlv;subst hlv;rfl
    rw [if_neg e3];rw [if_neg (by rw [not_or,he0] at e3;omega)] at hlv;simp only at hlv;cases e4:kz p.el p.lang x.el x.lang with
    | false=>rw [if_neg (by simp)];rw [if_pos e4] at hlv;subst hlv;rfl
    | true=>rw [if_pos rfl];rw [if_neg (by simp [e4])] at hlv;subst hlv;rw [if_pos rfl];exact fin
 ·rw [List.drop_eq_nil_of_le (by omega)];simp (maxSteps:=9^9) (disch:=omega) [-List.map_replicate,-List.map_set,-List.getD_eq_getElem?_getD,-getElem?_pos,-getElem?_neg,om,h1,ez,hBl]
def gh (l:List Sh):Option Nat→List Int
 | some j=>chain l j
 | none=> []
def sv:List Int→Int→Bool
 | [],_=>false
 | x::r,u=>(x==u) || sv r u
theorem ug: ∀(L:List Int) (u:Int),sv L u=L.contains u
 | [],_=>rfl
 | x::r,u=>by
  rw [sv,ug r u,List.contains_cons];congr 1;exact Bool.beq_comm
theorem iH (c:Ct) (hc:c.ok) (n:Nat) (hn:n≤c.ag.length) (u:Int):ar cfg 89 [aO c,.int .i64 n,.int .i64 u] []=some (.int .i64 (az (aG (c.ag.take n) u)), []):=by
 refine ab Wy Uh ?_;have hz:=hc.sz;have hl:=hc.sl;have hg:=fun i (h:i<c.ag.length)=>fP c.ag h;have hEl:(c.ag.map aI).length=c.ag.length:=by simp
 have hp:=cy c.ag;unfold aO bU;generalize c.aq.map bF=A2 at*
 generalize ao c.aa=A1 at*
 generalize c.ag=S at*
 generalize S.map aI=E at*
 generalize c.sz=z at*
 rw [←zX];simp (maxSteps:=9^9) (disch:=omega) [-List.map_replicate,-List.map_set,-List.getD_eq_getElem?_getD,-getElem?_pos,-getElem?_neg,om,Ui];refine Wp.aA (fun (i:Nat)=>n-i) (fun i=> [none,some (.int .i64 n),some (.int .i64 u),some (.ptr 0 0),none,some (.int .i64 i),none,none]) (fun _=> [.var 26 [.ah c.ln c.lz A1,.ah c.bn c.bz A2,.ah c.sn z E]]) (fun i=>tG u (S.take n) 0=tG u ((S.take n).drop i) i∧i≤n) ?_ 0 ⟨by simp,by omega⟩ (by simp) rfl;rintro i ⟨hi,hil⟩;rw [hi];clear hi;by_cases h1:i<n
 ·have h2:i<S.length:=by omega
  have hgi:=hg i h2;obtain rfl:=hz (ne_of_lt h2);have h3:i<(S.take n).length:=by simp;omega
  rw [List.drop_eq_getElem_cons h3];simp only [tG,List.getElem_take];generalize S[i]=x at*
  clear hg;by_cases he:x.unit=u
  ·subst he;simp (maxSteps:=9^9) (disch:=omega) [-List.map_replicate,-List.map_set,-List.getD_eq_getElem?_getD,-getElem?_pos,-getElem?_neg,om,h1,hgi,hEl]
  ·have he2:(x.unit==u)=false:=by simpa using he
   simp (maxSteps:=9^9) (disch:=omega) [-List.map_replicate,-List.map_set,-List.getD_eq_getElem?_getD,-getElem?_pos,-getElem?_neg,om,h1,hgi,hEl,he,he2];exact ⟨i+1,⟨rfl,by omega⟩,by omega,by simp⟩
 ·rw [List.drop_eq_nil_of_le (by simp;omega)];simp (maxSteps:=9^9) (disch:=omega) [-List.map_replicate,-List.map_set,-List.getD_eq_getElem?_getD,-getElem?_pos,-getElem?_neg,om,h1,tG]
theorem Ek (nl:Option Bool) (z:Nat) (L:List Int) (hz:L≠ []→z=1) (hL:L.length<1000000) (u:Int):ar cfg 90 [.ah nl z (cJ L),.int .i64 u] []=some (.bool (sv L u), []):=by
 refine ab Wz Uj ?_;have hg: ∀i (h:i<L.length),(cJ L)[i]?=some (.int .i64 L[i]):=fun i h=>get_map _ _ h;have hEl:=wV L;generalize cJ L=E at*
 simp (maxSteps:=9^9) (disch:=omega) [-List.map_replicate,-List.map_set,-List.getD_eq_getElem?_getD,-getElem?_pos,-getElem?_neg,om,Uk];refine Wp.aA (fun (i:Nat)=>L.length-i) (fun i=> [some (.ah nl z E),some (.int .i64 u),none,some (.int .i64 i),none,none]) (fun _=> []) (fun i=>sv L u=sv (L.drop i) u∧i≤L.length) ?_ 0 ⟨by simp,by omega⟩ (by simp) rfl;rintro i ⟨hi,hil⟩;rw [hi];clear hi;by_cases h1:i<L.length
 ·have hgi:=hg i h1;obtain rfl:=hz (ne_of_lt h1);rw [List.drop_eq_getElem_cons h1];generalize L[i]=x at*
  clear hg;by_cases he:x=u
  ·subst he;simp (maxSteps:=9^9) (disch:=omega) [-List.map_replicate,-List.map_set,-List.getD_eq_getElem?_getD,-getElem?_pos,-getElem?_neg,om,h1,hgi,hEl,sv]
  ·have he2:(x==u)=false:=by simpa using he
   have he3:(u==x)=false:=by simpa using Ne.symm he
   simp (maxSteps:=9^9) (disch:=omega) [-List.map_replicate,-List.map_set,-List.getD_eq_getElem?_getD,-getElem?_pos,-getElem?_neg,om,h1,hgi,hEl,he,he2,he3,sv];exact ⟨i+1,⟨rfl,by omega⟩,by omega,by simp⟩
 ·rw [List.drop_eq_nil_of_le (by omega)];simp (maxSteps:=9^9) (disch:=omega) [-List.map_replicate,-List.map_set,-List.getD_eq_getElem?_getD,-getElem?_pos,-getElem?_neg,om,h1,hEl,sv]
theorem qZ (c:Ct) (hc:c.ok) (o:Option Nat) (ho: ∀j,o=some j→j<c.ag.length):ar cfg 91 [aO c,.int .i64 (az o)] []=some (.ah none 1 (cJ (gh c.ag o)), []):=by
 refine ab WA Ul ?_;have hz:=hc.sz;have hl:=hc.sl;have hg:=fun i (h:i<c.ag.length)=>fP c.ag h;have hEl:(c.ag.map aI).length=c.ag.length:=by simp
 have hx:=fun n hn u=>iH c hc n hn u;unfold aO bU at*
 generalize c.aq.map bF=A2 at*
 generalize ao c.aa=A1 at*
 generalize c.ag=S at*
 generalize S.map aI=E at*
 generalize c.sz=z at*
 simp (maxSteps:=9^9) (disch:=omega) [-List.map_replicate,-List.map_set,-List.getD_eq_getElem?_getD,-getElem?_pos,-getElem?_neg,om,Um]
 refine Wp.aA (fun (a:Option Nat×List Int)=>(az a.1+1).toNat) (fun a=> [none,some (.int .i64 (az a.1)),some (.ptr 0 0),none,some (.ay 1 a.2.length),none,none,none,none,none]) (fun a=> [.var 26 [.ah c.ln c.lz A1,.ah c.bn c.bz A2,.ah c.sn z E],.sl ⟨false,some 3,none⟩ 1 (cJ a.2)])
  (fun a=>gh S o=a.2++gh S a.1∧(∀j,a.1=some j→j<S.length)∧(a.2.length:Int)+az a.1<1000000) ?_ (o, []) ⟨by simp,ho,by
   cases o with
   | none=>simp [az]
   | some j=>have:=ho j rfl;simp [az];omega⟩ (by simp) (by simp [cJ])
 rintro ⟨p,out⟩ ⟨hi,hp,hlen⟩;simp only at hi hp hlen⊢;rw [hi];clear hi ho;cases p with
 | none=>simp (maxSteps:=9^9) (disch:=omega) [-List.map_replicate,-List.map_set,-List.getD_eq_getElem?_getD,-getElem?_pos,-getElem?_neg,om,az,gh,cJ]
 | some j=>
  have h1:=hp j rfl;have hgi:=hg j h1;have hxi:=hx j (by omega);obtain rfl:=hz (ne_of_lt h1)
  have hch:gh S (some j)=S[j].unit::(if S[j].par=0 then [] else gh S (aG (S.take j) S[j].par)):=by show chain S j=_;rw [cA (List.getElem?_eq_getElem h1)];rfl
  rw [hch]
  have hq: ∀u k,aG (S.take j) u=some k→k<j:=fun u k h=>by
   have:=cB h;simp at this;omega
  generalize S[j]=x at*
  clear hg hx hch hp;simp only [az] at hlen;by_cases he:x.par=0
  ·simp (maxSteps:=9^9) (disch:=omega) [-List.map_replicate,-List.map_set,-List.getD_eq_getElem?_getD,-getElem?_pos,-getElem?_neg,om,az,hgi,hEl,he,ae,cJ]
  ·have he2:(x.par==0)=false:=by simpa using he
   have hxj:=hxi x.par;have hqj:=hq x.par;generalize aG (S.take j) x.par=q at*
   simp (maxSteps:=9^9) (disch:=omega) [-List.map_replicate,-List.map_set,-List.getD_eq_getElem?_getD,-getElem?_pos,-getElem?_neg,om,az,hgi,hEl,he,he2,hxj,ae,cJ];refine ⟨q,out++ [x.unit],⟨by simp,fun k hk=>by have:=hqj k hk;omega,?_⟩,?_,⟨rfl,by simp⟩,by simp⟩
   ·cases q with
    | none=>simp;omega
    | some k=>have:=hqj k rfl;simp;omega
   ·cases q with
    | none=>simp;omega
    | some k=>have:=hqj k rfl;simp;omega
theorem zO (c:Ct) (hc:c.ok) (s:af):ar cfg 96 [aO c,.str s] []=some (.ah none 1 (ao (au c.aa s)), []):=by
 refine ab WB Un ?_;have hz:=hc.lz;have hl:=hc.ll;unfold aO bU au;generalize c.aq.map bF=A2 at*
 generalize c.ag.map aI=A3 at*
 generalize c.aa=L at*
 generalize c.lz=z at*
 simp (maxSteps:=9^9) (disch:=omega) [-List.map_replicate,-List.map_set,-List.getD_eq_getElem?_getD,-getElem?_pos,-getElem?_neg,om,Uo]
 refine Wp.aA (fun (a:Nat×List af)=>L.length-a.1) (fun a=> [none,some (.str s),some (.ptr 0 0),none,some (.ay 1 a.2.length),some (.int .i64 a.1),none,none,none,none,none]) (fun a=> [.var 26 [.ah c.ln z (ao L),.ah c.bn c.bz A2,.ah c.sn c.sz A3],.sl ⟨false,some 9,none⟩ 1 (ao a.2)])
  (fun a=>s::L.filter (fun x=> !(x==s))=a.2++(L.drop a.1).filter (fun x=> !(x==s))∧a.1≤L.length∧a.2.length≤a.1+1) ?_ (0, [s]) ⟨by simp,by simp,by simp⟩ (by simp) (by simp [ao])
 rintro ⟨i,out⟩ ⟨hi,hil,hol⟩;simp only at hi hil hol⊢;rw [hi];clear hi;by_cases h1:i<L.length
 ·have hg:=kv L h1;obtain rfl:=hz (ne_of_lt h1);rw [zU L h1,List.filter_cons];generalize L.getD i []=x at*
  cases he:x==s with
  | true=>simp (maxSteps:=9^9) (disch:=omega) [-List.map_replicate,-List.map_set,-List.getD_eq_getElem?_getD,-getElem?_pos,-getElem?_neg,om,h1,hg,he];exact ⟨i+1,out,⟨rfl,by omega,by omega⟩,by omega,⟨rfl,by simp⟩,rfl⟩
  | false=>simp (maxSteps:=9^9) (disch:=omega) [-List.map_replicate,-List.map_set,-List.getD_eq_getElem?_getD,-getElem?_pos,-getElem?_neg,om,h1,hg,he,ae,He];exact ⟨i+1,out++ [x],⟨by simp,by omega,by simp;omega⟩,by omega,⟨by simp,by simp⟩,by simp [ao]⟩
 ·rw [List.drop_eq_nil_of_le (by omega)];simp (maxSteps:=9^9) (disch:=omega) [-List.map_replicate,-List.map_set,-List.getD_eq_getElem?_getD,-getElem?_pos,-getElem?_neg,om,h1]
def sx (el:Int) (lang:af):List Fc→Option Nat
 | []=>none
 | f::r=>if f.el=el∧f.lang=lang then some 0 else (sx el lang r).map (· +1)
def tE (el:Int) (lang:af):List Fc→Nat→Int
 | [],_=> -1
 | f::r,i=>if f.el=el∧f.lang=lang then (i:Int) else tE el lang r (i+1)
theorem Cu (el:Int) (lang:af): ∀(l:List Fc) (i:Nat),tE el lang l i=match sx el lang l with | some k=>((i+k:Nat):Int) | none=> -1
 | [],_=>rfl
 | f::r,i=>by
  unfold tE sx;by_cases h:f.el=el∧f.lang=lang
  ·rw [if_pos h,if_pos h];simp
  ·rw [if_neg h,if_neg h,Cu el lang r (i+1)];cases sx el lang r with
   | none=>rfl
   | some k=>simp only [Option.map_some];congr 1;omega
theorem yr (el:Int) (lang:af): ∀(l:List Fc),(match sx el lang l with | some k=>k<l.length∧ik l el lang=l[k]? | none=>ik l el lang=none)
 | []=>rfl
 | f::r=>by
  have ih:=yr el lang r;unfold sx;by_cases h:f.el=el∧f.lang=lang
  ·rw [if_pos h];refine ⟨by simp,?_⟩;unfold ik;rw [List.find?_cons_of_pos (by simp [h.1,h.2])];rfl
  ·rw [if_neg h]
   have hf:ik (f::r) el lang=ik r el lang:=by unfold ik;rw [List.find?_cons_of_neg (by simpa using h)]
   cases hx:sx el lang r with
   | none=>rw [hx] at ih;simp only [Option.map_none];rw [hf];exact ih
   | some k=>rw [hx] at ih;simp only [Option.map_some,List.length_cons,List.getElem?_cons_succ];exact ⟨by omega,by rw [hf];exact ih.2⟩
theorem Jz (nl:Option Bool) (z:Nat) (l:List Fc) (hz:l≠ []→z=3) (hl:l.length<1000000) (el:Int) (lang:af):ar cfg 148 [.ah nl z (l.map cU),.int .i64 el,.str lang] []=some (.int .i64 (az (sx el lang l)), []):=by
 refine ab Up PH ?_
 have hn:az (sx el lang l)=tE el lang l 0:=by rw [Cu];cases sx el lang l <;> simp [az]
 rw [hn];have hE: ∀k (h:k<l.length),(l.map cU)[k]?=some (.agg [.int .i64 l[k].el,.str l[k].lang,.str l[k].text]):=fun k h=>get_map _ _ h;have hEl:(l.map cU).length=l.length:=by simp
 generalize l.map cU=E at*
 simp (maxSteps:=9^9) (disch:=omega) [-List.map_replicate,-List.map_set,-List.getD_eq_getElem?_getD,-getElem?_pos,-getElem?_neg,om,MS];refine Wp.aA (fun (i:Nat)=>l.length-i) (fun i=> [some (.ah nl z E),some (.int .i64 el),some (.str lang),none,some (.int .i64 i),none,none]) (fun _=> []) (fun i=>tE el lang l 0=tE el lang (l.drop i) i∧i≤l.length) ?_ 0 ⟨by simp,by omega⟩ (by simp) rfl;rintro i ⟨hi,hil⟩;rw [hi];clear hi;by_cases h1:i<l.length
 ·have hg:=hE i h1;obtain rfl:=hz (ne_of_lt h1);rw [List.drop_eq_getElem_cons h1];simp only [tE];generalize l[i]=x at*
  clear hE;by_cases e1:x.el=el
  ·by_cases e2:x.lang=lang
   ·simp (maxSteps:=9^9) (disch:=omega) [-List.map_replicate,-List.map_set,-List.getD_eq_getElem?_getD,-getElem?_pos,-getElem?_neg,om,h1,hg,hEl,e1,e2]
   ·have e2':(x.lang==lang)=false:=by simpa using e2
    simp (maxSteps:=9^9) (disch:=omega) [-List.map_replicate,-List.map_set,-List.getD_eq_getElem?_getD,-getElem?_pos,-getElem?_neg,om,h1,hg,hEl,e1,e2,e2'];exact ⟨i+1,⟨rfl,by omega⟩,by omega,by simp⟩
  ·have e1':(x.el==el)=false:=by simpa using e1
   simp (maxSteps:=9^9) (disch:=omega) [-List.map_replicate,-List.map_set,-List.getD_eq_getElem?_getD,-getElem?_pos,-getElem?_neg,om,h1,hg,hEl,e1,e1'];exact ⟨i+1,⟨rfl,by omega⟩,by omega,by simp⟩
 ·rw [List.drop_eq_nil_of_le (by omega)];simp (maxSteps:=9^9) (disch:=omega) [-List.map_replicate,-List.map_set,-List.getD_eq_getElem?_getD,-getElem?_pos,-getElem?_neg,om,h1,hEl,tE]
theorem Fy (nl:Option Bool) (z:Nat) (l:List Fc) (hz:l≠ []→z=3) (hl:l.length<1000000) (order:List af) (ho:order.length<1000000):
  ar cfg 95 [.ah nl z (l.map cU),.ah none 1 (ao order)] []=some (.ah none 3 ((aW order l).map cU), []):=by
 refine ab WC Uq ?_;have hE: ∀k (h:k<l.length),(l.map cU)[k]?=some (.agg [.int .i64 l[k].el,.str l[k].lang,.str l[k].text]):=fun k h=>get_map _ _ h;have hEl:(l.map cU).length=l.length:=by simp
 have hf:=fun el lang=>Jz nl z l hz hl el lang;generalize l.map cU=E at*
 unfold aW;simp (maxSteps:=9^9) (disch:=omega) [-List.map_replicate,-List.map_set,-List.getD_eq_getElem?_getD,-getElem?_pos,-getElem?_neg,om,Ur]
 refine Wp.aA (fun (a:Nat×List Fc)=>l.length-a.1) (fun a=> [some (.ah nl z E),some (.ah none 1 (ao order)),none,some (.ay 0 a.2.length),some (.int .i64 a.1),none,none,none,none,none,none,none,none,none]) (fun a=> [.sl ⟨false,some 79,none⟩ 3 (a.2.map cU)])
  (fun a=>bR order l none l=a.2++bR order l (if a.1=0 then none else (l[a.1-1]?).map (·.el)) (l.drop a.1)∧a.1≤l.length∧a.2.length≤a.1) ?_ (0, []) ⟨by simp,by simp,by simp⟩ (by simp) (by simp)
 rintro ⟨i,out⟩ ⟨hi,hil,hol⟩;simp only at hi hil hol⊢;rw [hi];clear hi;by_cases h1:i<l.length
 ·have hg:=hE i h1;obtain rfl:=hz (ne_of_lt h1);rw [List.drop_eq_getElem_cons h1];simp only [bR];have hnext:(if i+1=0 then none else (l[i+1-1]?).map (·.el))=some l[i].el:=by simp [h1]
  have hpv:i≠0→ ∃p,l[i-1]?=some p∧E[i-1]?=some (.agg [.int .i64 p.el,.str p.lang,.str p.text]):=fun h=>⟨l[i-1],List.getElem?_eq_getElem (by omega),hE _ (by omega)⟩
  have hres: ∀el lang,(match sx el lang l with | some k=> ∃f,ik l el lang=some f∧E[k]?=some (.agg [.int .i64 f.el,.str f.lang,.str f.text]) | none=>ik l el lang=none):=fun el lang=>by
   have:=yr el lang l;cases hx:sx el lang l with
   | none=>rw [hx] at this;exact this
   | some k=>rw [hx] at this;exact ⟨l[k],by rw [this.2,List.getElem?_eq_getElem this.1],hE k this.1⟩
  generalize hx:l[i]=x at*
  by_cases hskip:(if i=0 then none else (l[i-1]?).map (·.el))=some x.el
  ·rw [if_pos hskip];by_cases hi0:i=0
   ·rw [if_pos hi0] at hskip;cases hskip
   obtain ⟨p,q1,q2⟩:=hpv hi0;rw [if_neg hi0,q1] at hskip;have hpe:p.el=x.el:=by simpa using hskip
   have hi1:(0:Int)<(i:Int):=by omega
   have hi2:((i:Int)-1).toNat=i-1:=by omega
   clear hE hf hres hpv hskip;simp (maxSteps:=9^9) (disch:=omega) [-List.map_replicate,-List.map_set,-List.getD_eq_getElem?_getD,-getElem?_pos,-getElem?_neg,om,h1,hg,hEl,hi0,hi1,hi2,q2,hpe];refine ⟨i+1,out,⟨by rw [hnext],by omega,by omega⟩,by omega,⟨rfl,by simp⟩,rfl⟩
  ·rw [if_neg hskip]
   have hcs:(¬ (0:Int)<(i:Int))∨ ∃p:Fc,(0:Int)<(i:Int)∧((i:Int)-1).toNat=i-1∧E[i-1]?=some (.agg [.int .i64 p.el,.str p.lang,.str p.text])∧(p.el==x.el)=false∧p.el≠x.el:=by
    by_cases hi0:i=0
    ·left;omega
    ·right;obtain ⟨p,q1,q2⟩:=hpv hi0;rw [if_neg hi0,q1] at hskip;have hne:p.el≠x.el:=by simpa using hskip
     exact ⟨p,by omega,by omega,q2,by simpa using hne,hne⟩
   clear hE hpv hskip;have hbest:oE order l x.el=match order.findSome? (ik l x.el) with | some f=> [f] | none=> []:=rfl
   rw [hbest];generalize hG:bR order l (some x.el) (l.drop (i+1))=G at*
   rcases hcs with g1 | ⟨p,g1,g2,g3,g4,g5⟩
   case' inl=>simp (maxSteps:=9^9) (disch:=omega) [-List.map_replicate,-List.map_set,-List.getD_eq_getElem?_getD,-getElem?_pos,-getElem?_neg,om,h1,hg,hEl,g1]
   case' inr=>simp (maxSteps:=9^9) (disch:=omega) [-List.map_replicate,-List.map_set,-List.getD_eq_getElem?_getD,-getElem?_pos,-getElem?_neg,om,h1,hg,hEl,g1,g2,g3,g4,g5]
   all_goals
    refine Wp.aA (fun (k:Nat)=>order.length-k) (fun k=> [some (.ah nl 3 E),some (.ah none 1 (ao order)),none,some (.ay 0 out.length),some (.int .i64 i),some (.int .i64 k),none,none,none,none,none,none,none,none]) (fun _=> [.sl ⟨false,some 79,none⟩ 3 (out.map cU)])
     (fun k=>order.findSome? (ik l x.el)=(order.drop k).findSome? (ik l x.el)∧k≤order.length) ?_ 0 ⟨by simp,by omega⟩ (by simp) rfl
    rintro k ⟨hk,hkl⟩;rw [hk];clear hk;by_cases h2:k<order.length
    ·have hgk:=kv order h2;rw [zU order h2,List.findSome?_cons];have hw:=hf x.el (order.getD k []);have hr:=hres x.el (order.getD k []);generalize order.getD k []=lang at*
     cases hq:sx x.el lang l with
     | none=>rw [hq] at hw hr;simp only at hr;rw [hr];clear hf hres;simp (maxSteps:=9^9) (disch:=omega) [-List.map_replicate,-List.map_set,-List.getD_eq_getElem?_getD,-getElem?_pos,-getElem?_neg,om,h1,h2,hg,hgk,hw,az];exact ⟨k+1,⟨rfl,by omega⟩,by omega,by simp⟩
     | some q=>rw [hq] at hw hr;obtain ⟨f,hr1,hr2⟩:=hr;rw [hr1];clear hf hres;simp (maxSteps:=9^9) (disch:=omega) [-List.map_replicate,-List.map_set,-List.getD_eq_getElem?_getD,-getElem?_pos,-getElem?_neg,om,h1,h2,hg,hgk,hw,hr2,hEl,az,ae];exact ⟨i+1,out++ [f],⟨by rw [hnext,hG];simp,by omega,by simp;omega⟩,by omega,⟨by simp,by simp⟩,by simp [cU]⟩
    ·rw [List.drop_eq_nil_of_le (by omega)];clear hf hres;simp (maxSteps:=9^9) (disch:=omega) [-List.map_replicate,-List.map_set,-List.getD_eq_getElem?_getD,-getElem?_pos,-getElem?_neg,om,h2,List.findSome?_nil];exact ⟨i+1,out,⟨by rw [hnext,hG],by omega,by omega⟩,by omega,⟨rfl,by simp⟩,rfl⟩
 ·rw [List.drop_eq_nil_of_le (by omega)];simp (maxSteps:=9^9) (disch:=omega) [-List.map_replicate,-List.map_set,-List.getD_eq_getElem?_getD,-getElem?_pos,-getElem?_neg,om,h1,hEl,bR]
theorem yt (c:Ct) (hc:c.ok) (el:Int) (hel: -9223372036854775808≤el∧el≤9223372036854775807) (s:af) (hb: ∀q∈c.aq,q.text.length<1000000):ar cfg 102 [aO c,.int .i64 el,.str s] []=some (.str (il (au c.aa s) c.aq el (cV Lib.itoa el)), []):=by
 refine ab Us PI ?_;have hp:=zO c hc s;have hbz:=hc.bz;have hbl:=hc.bl
 have hol:(au c.aa s).length<1000001:=by unfold au;have:=List.length_filter_le (fun x=> !(x==s)) c.aa;have:=hc.ll;simp only [List.length_cons];omega
 have hBl:(c.aq.map bF).length=c.aq.length:=by simp
 have hE: ∀k (h:k<c.aq.length),(c.aq.map bF)[k]?=some (.agg [.int .i64 c.aq[k].el,.str c.aq[k].lang,.str c.aq[k].text,.int .i64 c.aq[k].ix]):=fun k h=>get_map _ _ h;have hit:=Lib.itoa_length_le el hel.1 hel.2;obtain ⟨hel1,hel2⟩:=hel;unfold il cV;generalize au c.aa s=order at*
 generalize hit2:Lib.itoa el=it at*
 unfold aO bU at*
 generalize c.aq=B at*
 generalize c.bz=bz at*
 generalize B.map bF=E at*
 generalize c.ag.map aI=A3 at*
 generalize ao c.aa=A1 at*
 simp (maxSteps:=9^9) (disch:=omega) [-List.map_replicate,-List.map_set,-List.getD_eq_getElem?_getD,-getElem?_pos,-getElem?_neg,om,MT,hp];refine Wp.aA (fun (k:Nat)=>order.length-k) (fun k=> [none,some (.int .i64 el),none,some (.ptr 0 0),none,some (.ah none 1 (ao order)),some (.int .i64 k),none,none,none,none,none,none]) (fun _=> [.var 26 [.ah c.ln c.lz A1,.ah c.bn bz E,.ah c.sn c.sz A3]]) (fun k=>order.findSome? (kZ B el)=(order.drop k).findSome? (kZ B el)∧k≤order.length) ?_ 0 ⟨by simp,by omega⟩ (by simp) rfl;rintro k ⟨hk,hkl⟩;rw [hk];clear hk;by_cases h1:k<order.length
 ·have hgk:=kv order h1;rw [zU order h1,List.findSome?_cons];generalize order.getD k []=lang at*
  simp (maxSteps:=9^9) (disch:=omega) [-List.map_replicate,-List.map_set,-List.getD_eq_getElem?_getD,-getElem?_pos,-getElem?_neg,om,h1];refine Wp.aA (fun (j:Nat)=>B.length-j) (fun j=> [none,some (.int .i64 el),none,some (.ptr 0 0),none,some (.ah none 1 (ao order)),some (.int .i64 k),some (.int .i64 j),none,none,none,none,none]) (fun _=> [.var 26 [.ah c.ln c.lz A1,.ah c.bn bz E,.ah c.sn c.sz A3]]) (fun j=>kZ B el lang=kZ (B.drop j) el lang∧j≤B.length) ?_ 0 ⟨by simp,by omega⟩ (by simp) rfl;rintro j ⟨hj,hjl⟩;rw [hj];clear hj;by_cases h2:j<B.length
  ·have hg:=hE j h2;obtain rfl:=hbz (ne_of_lt h2);rw [List.drop_eq_getElem_cons h2];generalize B[j]=x at*
   clear hE;by_cases e1:x.el=el
   ·by_cases e2:x.lang=lang
    ·have hf:kZ (x::B.drop (j+1)) el lang=some x.text:=by unfold kZ;rw [List.find?_cons_of_pos (by simp [e1,e2])];rfl
     rw [hf];simp (maxSteps:=9^9) (disch:=omega) [-List.map_replicate,-List.map_set,-List.getD_eq_getElem?_getD,-getElem?_pos,-getElem?_neg,om,h1,h2,hg,hgk,hBl,e1,e2]
    ·have e2':(x.lang==lang)=false:=by simpa using e2
     have hf:kZ (x::B.drop (j+1)) el lang=kZ (B.drop (j+1)) el lang:=by unfold kZ;rw [List.find?_cons_of_neg (by simp [e2])]
     rw [hf];simp (maxSteps:=9^9) (disch:=omega) [-List.map_replicate,-List.map_set,-List.getD_eq_getElem?_getD,-getElem?_pos,-getElem?_neg,om,h1,h2,hg,hgk,hBl,e1,e2,e2'];exact ⟨j+1,⟨rfl,by omega⟩,by omega,by simp⟩
   ·have e1':(x.el==el)=false:=by simpa using e1
    have hf:kZ (x::B.drop (j+1)) el lang=kZ (B.drop (j+1)) el lang:=by unfold kZ;rw [List.find?_cons_of_neg (by simp [e1])]
    rw [hf];simp (maxSteps:=9^9) (disch:=omega) [-List.map_replicate,-List.map_set,-List.getD_eq_getElem?_getD,-getElem?_pos,-getElem?_neg,om,h1,h2,hg,hgk,hBl,e1,e1'];exact ⟨j+1,⟨rfl,by omega⟩,by omega,by simp⟩
  ·have hf:kZ (B.drop j) el lang=none:=by rw [List.drop_eq_nil_of_le (by omega)];rfl
   rw [hf];simp (maxSteps:=9^9) (disch:=omega) [-List.map_replicate,-List.map_set,-List.getD_eq_getElem?_getD,-getElem?_pos,-getElem?_neg,om,h2,hBl];exact ⟨k+1,⟨rfl,by omega⟩,by omega,by simp⟩
 ·rw [List.drop_eq_nil_of_le (by omega)];simp (maxSteps:=9^9) (disch:=omega) [-List.map_replicate,-List.map_set,-List.getD_eq_getElem?_getD,-getElem?_pos,-getElem?_neg,om,h1,List.findSome?_nil,sB,hel1,hel2,hit2]
theorem yu (c:Ct) (hc:c.ok) (u:Int) (hb: ∀s∈c.ag,s.mark.length<1000000∧s.title.length<1000000):ar cfg 103 [aO c,.int .i64 u] []=some (.str (cL c.ag u), []):=by
 refine ab Ut PJ ?_;have hi:=iH c hc c.ag.length (Nat.le_refl _) u;rw [List.take_length] at hi;have hEl:(c.ag.map aI).length=c.ag.length:=by simp
 unfold cL;cases hx:aG c.ag u with
 | none=>
  rw [hx] at hi;unfold aO bU at*
  generalize ao c.aa=L1 at*
  generalize c.aq.map bF=L2 at*
  generalize c.ag.map aI=L3 at*
  simp (maxSteps:=9^9) (disch:=omega) [-List.map_replicate,-List.map_set,-List.getD_eq_getElem?_getD,-getElem?_pos,-getElem?_neg,om,Fz,hi,hEl,az]
 | some i=>
  rw [hx] at hi;have hl:=cB hx;have hg:=fP c.ag hl;have hgo:c.ag[i]?=some c.ag[i]:=List.getElem?_eq_getElem hl;have hsz:=hc.sz (ne_of_lt hl);obtain ⟨b1,b2⟩:=hb _ (List.getElem_mem hl);have hil:i<1000000:=by have:=hc.sl;omega
  simp only [hgo];unfold aO bU at*
  generalize c.ag[i]=x at*
  generalize ao c.aa=L1 at*
  generalize c.aq.map bF=L2 at*
  generalize c.ag.map aI=L3 at*
  rw [hsz] at*
  by_cases hm:x.mark= []
  ·simp (maxSteps:=9^9) (disch:=omega) [-List.map_replicate,-List.map_set,-List.getD_eq_getElem?_getD,-getElem?_pos,-getElem?_neg,om,Fz,hi,hEl,az,hg,hm]
  ·simp (maxSteps:=9^9) (disch:=omega) [-List.map_replicate,-List.map_set,-List.getD_eq_getElem?_getD,-getElem?_pos,-getElem?_neg,om,Fz,hi,hEl,az,hg,hm]
theorem od {l:List Sh}: ∀i,(chain l i).length≤i+1:=by
 intro i
 induction i using Nat.strongRecOn with
 | _ i ih=>
  cases hs:l[i]? with
  | none=>
   rw [chain];split
   ·simp
   ·rename_i s h;rw [hs] at h;cases h
  | some s=>
   rw [cA hs];split
   ·simp
   ·cases hx:aG (l.take i) s.par with
    | none=>simp
    | some j=>have:=cB hx;simp only [List.length_take] at this;have:=ih j (by omega);simp only [List.length_cons];omega
theorem PK (c:Ct) (hc:c.ok) (i:Nat) (hi:i<c.ag.length):ar cfg 99 [aO c,.int .i64 i] []=some (.int .i64 (qO c.aa c.ag i c.ag[i]), []):=by
 refine ab WD Uu ?_;have hsz:=hc.sz (ne_of_lt hi);have hsl:=hc.sl;have hg:=fP c.ag hi;have hEl:(c.ag.map aI).length=c.ag.length:=by simp
 have hso:=hc.sh _ (List.getElem_mem hi);have x1:=iH c hc i (by omega) c.ag[i].unit;have x2:=iH c hc i (by omega) c.ag[i].par;have x3:=qZ c hc (some (i-1)) (fun j h=>by cases h;omega);have x4:=qZ c hc (aG (c.ag.take i) c.ag[i].par) (fun j h=>by have:=cB h;simp at this;omega);have x5:=Jx c hc c.ag[i].fn c.ag[i].fz c.ag[i].facts hso.fz hso.fl;have x6:=Ek none 1 (chain c.ag (i-1)) (fun _=>rfl) (by have:=od (l:=c.ag) (i-1);omega) c.ag[i].par
 have hcl:(gh c.ag (aG (c.ag.take i) c.ag[i].par)).length<1000000:=by
  cases hx:aG (c.ag.take i) c.ag[i].par with
  | none=>simp [gh]
  | some j=>have:=cB hx;simp at this;have:=od (l:=c.ag) j;simp only [gh];omega
 have hE1:jv (c.ag.take i) c.ag[i]=if c.ag[i].unit<1∨1073741824<c.ag[i].unit∨c.ag[i].level<1∨4<c.ag[i].level then 2 else
  if 64<c.ag[i].mark.length∨c.ag[i].title.length<1∨64<c.ag[i].title.length then 4 else if (aG (c.ag.take i) c.ag[i].unit).isSome=true then 6 else 0:=rfl
 have hP:gz c.ag i c.ag[i]=if c.ag[i].par=0 then some 0 else if i=0 then none else if sv (chain c.ag (i-1)) c.ag[i].par=true then some (gh c.ag (aG (c.ag.take i) c.ag[i].par)).length else none:=by unfold gz;rw [ug];congr 1;congr 1;cases aG (c.ag.take i) c.ag[i].par <;> rfl
 have hs0:0≤az (aG (c.ag.take i) c.ag[i].unit)↔(aG (c.ag.take i) c.ag[i].unit).isSome=true:=by cases aG (c.ag.take i) c.ag[i].unit <;> simp [az]
 have hS:qO c.aa c.ag i c.ag[i]=if jv (c.ag.take i) c.ag[i]=0 then (match gz c.ag i c.ag[i] with | none=>7 | some k=>if 12≤k then 15 else jA c.aa c.ag[i].facts) else jv (c.ag.take i) c.ag[i]:=rfl;rw [hP,hE1] at hS;simp only [gh] at x3;generalize qO c.aa c.ag i c.ag[i]=R at*
 generalize jA c.aa c.ag[i].facts=fe at*
 generalize hCH:gh c.ag (aG (c.ag.take i) c.ag[i].par)=CH at*
 generalize aG (c.ag.take i) c.ag[i].unit=iu at*
 generalize aG (c.ag.take i) c.ag[i].par=ip at*
 generalize chain c.ag (i-1)=C1 at*
 clear hP hE1 hso hCH;unfold aO bU at*
 generalize c.ag[i]=x at*
 generalize c.ag.map aI=L3 at*
 generalize ao c.aa=L1 at*
 generalize c.aq.map bF=L2 at*
 rw [hsz] at*
 have he0:x.title= []↔x.title.length=0:=by simp
 generalize az iu=ni at*
 generalize az ip=np at*
 simp only [←hs0] at hS;by_cases hp0:x.par=0
 ·rw [if_pos hp0] at hS;simp only [show¬ (12:Nat)≤0 by decide,if_false] at hS;replace hS:=fun _:Unit=>hS;simp (maxSteps:=9^9) (disch:=omega) [-List.map_replicate,-List.map_set,-List.getD_eq_getElem?_getD,-getElem?_pos,-getElem?_neg,om,JA,hg,hEl,hi,ae,x1,x5,hp0];replace hS:=hS ();simp only [he0]
  intros
  repeat' split
  all_goals omega
 ·rw [if_neg hp0] at hS;by_cases hi0:i=0
  ·rw [if_pos hi0] at hS;simp only at hS;have hi1:((i:Int)==0)=true:=by rw [beq_iff_eq];omega
   have hi2:((i:Int)=0)=True:=eq_true (by omega);have hi4:(i=0)=True:=eq_true hi0;replace hS:=fun _:Unit=>hS;simp (maxSteps:=9^9) (disch:=omega) [-List.map_replicate,-List.map_set,-List.getD_eq_getElem?_getD,-getElem?_pos,-getElem?_neg,om,JA,hg,hEl,hi,ae,x1,x5,hp0,hi1,hi2,hi4];replace hS:=hS ();simp only [he0]
   intros
   repeat' split
   all_goals omega
  ·rw [if_neg hi0] at hS;have hi1:((i:Int)==0)=false:=by rw [beq_eq_false_iff_ne];omega
   have hi2:(i:Int)≠0:=by omega
   have hi3:az (some (i-1))=(i:Int)-1:=by simp [az];omega
   rw [hi3] at x3;cases hb:sv C1 x.par with
   | false=>
    rw [hb] at x6 hS;simp only [Bool.false_eq_true,if_false] at hS;replace hS:=fun _:Unit=>hS;simp (maxSteps:=9^9) (disch:=omega) [-List.map_replicate,-List.map_set,-List.getD_eq_getElem?_getD,-getElem?_pos,-getElem?_neg,om,JA,hg,hEl,hi,ae,x1,x2,x3,x4,x5,x6,hp0,hi0,hi1,hi2];replace hS:=hS ();simp only [he0]
    intros
    repeat' split
    all_goals omega
   | true=>
    rw [hb] at x6 hS;simp only [if_true] at hS;replace hS:=fun _:Unit=>hS;simp (maxSteps:=9^9) (disch:=omega) [-List.map_replicate,-List.map_set,-List.getD_eq_getElem?_getD,-getElem?_pos,-getElem?_neg,om,JA,hg,hEl,hi,ae,x1,x2,x3,x4,x5,x6,hp0,hi0,hi1,hi2];replace hS:=hS ();simp only [he0];by_cases h12:12≤CH.length
    ·rw [if_pos h12] at hS
     intros
     repeat' split
     all_goals omega
    ·rw [if_neg h12] at hS
     intros
     repeat' split
     all_goals omega
theorem n9 (c:Ct) (hc:c.ok):ar cfg 51 [aO c] []=some (.int .i64 (dh c), []):=by
 refine ab WE Uv ?_;have h1:=G5 c.ln c.lz c.aa hc.lz hc.ll;have h2:=Jw c hc;have h3:=fun i hi=>PK c hc i hi;have hEl:(c.ag.map aI).length=c.ag.length:=by simp
 unfold dh;rw [BR];unfold K0;unfold aO bU at*
 generalize j4 c.aa=e1 at*
 generalize oo c.aa c.aq=e2 at*
 generalize hL:c.aa=L at*
 generalize ao L=L1 at*
 generalize c.aq.map bF=L2 at*
 generalize c.ag=S at*
 generalize S.map aI=L3 at*
 by_cases g1:e1=0
 case neg=>simp (maxSteps:=9^9) (disch:=omega) [-List.map_replicate,-List.map_set,-List.getD_eq_getElem?_getD,-getElem?_pos,-getElem?_neg,om,JB,h1,g1]
 rw [if_pos g1];by_cases g2:e2=0
 case neg=>simp (maxSteps:=9^9) (disch:=omega) [-List.map_replicate,-List.map_set,-List.getD_eq_getElem?_getD,-getElem?_pos,-getElem?_neg,om,JB,h1,g1,h2,g2]
 rw [if_pos g2];by_cases g3:256<S.length
 case pos=>simp (maxSteps:=9^9) (disch:=omega) [-List.map_replicate,-List.map_set,-List.getD_eq_getElem?_getD,-getElem?_pos,-getElem?_neg,om,JB,h1,g1,h2,g2,g3,hEl]
 rw [if_neg g3];simp (maxSteps:=9^9) (disch:=omega) [-List.map_replicate,-List.map_set,-List.getD_eq_getElem?_getD,-getElem?_pos,-getElem?_neg,om,JB,h1,g1,h2,g2,g3,hEl];refine Wp.aA (fun (i:Nat)=>S.length-i) (fun i=> [none,some (.ptr 0 0),none,none,none,some (.int .i64 i),none,none,none,none,none,none,none,none,none]) (fun _=> [.var 26 [.ah c.ln c.lz L1,.ah c.bn c.bz L2,.ah c.sn c.sz L3]]) (fun i=>kj L S 0 S=kj L S i (S.drop i)∧i≤S.length) ?_ 0 ⟨by simp,by omega⟩ (by simp) rfl;rintro i ⟨hi,hil⟩;rw [hi];clear hi;by_cases q1:i<S.length
 ·have hw:=h3 i q1;rw [List.drop_eq_getElem_cons q1];simp only [kj];generalize qO L S i S[i]=e at*
  by_cases q2:e=0
  ·rw [if_pos q2];simp (maxSteps:=9^9) (disch:=omega) [-List.map_replicate,-List.map_set,-List.getD_eq_getElem?_getD,-getElem?_pos,-getElem?_neg,om,q1,hEl,hw,q2];exact ⟨i+1,⟨rfl,by omega⟩,by omega,by simp⟩
  ·rw [if_neg q2];simp (maxSteps:=9^9) (disch:=omega) [-List.map_replicate,-List.map_set,-List.getD_eq_getElem?_getD,-getElem?_pos,-getElem?_neg,om,q1,hEl,hw,q2]
 ·rw [List.drop_eq_nil_of_le (by omega)];simp (maxSteps:=9^9) (disch:=omega) [-List.map_replicate,-List.map_set,-List.getD_eq_getElem?_getD,-getElem?_pos,-getElem?_neg,om,q1,hEl,kj]
theorem Fu (lev:Int) (h1:1≤lev) (h4:lev≤4):ar cfg 75 [.int .i64 lev] []=some (.str (dD lev), []):=by
 refine ab WG Uw ?_;have:lev=1∨lev=2∨lev=3∨lev=4:=by omega
 rcases this with rfl | rfl | rfl | rfl <;> simp (maxSteps:=9^9) (disch:=omega) [-List.map_replicate,-List.map_set,-List.getD_eq_getElem?_getD,-getElem?_pos,-getElem?_neg,om,Ux,dD]
theorem G6 (s:af) (hs:s.length<1000000):ar cfg 74 [.str s] []=some (.int .i64 (ba s), []):=by
 refine ab WH Uy ?_;simp (maxSteps:=9^9) (disch:=omega) [-List.map_replicate,-List.map_set,-List.getD_eq_getElem?_getD,-getElem?_pos,-getElem?_neg,om,Uz];refine Wp.aA (fun (a:Nat×Nat)=>s.length-a.1) (fun a=> [some (.str s),none,some (.int .i64 a.2),some (.int .i64 a.1),none,none]) (fun _=> []) (fun a=>ba s=a.2+ba (s.drop a.1)∧a.1≤s.length∧a.2≤a.1) ?_ (0,0) ⟨by simp,by simp,by simp⟩ (by simp) rfl;rintro ⟨i,n⟩ ⟨hi,hil,hn⟩;simp only at hi hil hn⊢;rw [hi];clear hi;by_cases h1:i<s.length
 ·have hg:s[i]?=some (s.getD i 0):=by simp [List.getD_eq_getElem?_getD,h1]
  have hd:=Ac s h1;by_cases hc:s.getD i 0=46
  ·have hq:ba (s.drop i)=1+ba (s.drop (i+1)):=by rw [hd,hc];unfold ba;rw [List.count_cons_self];omega
   rw [hc] at hg;simp (maxSteps:=9^9) (disch:=omega) [-List.map_replicate,-List.map_set,-List.getD_eq_getElem?_getD,-getElem?_pos,-getElem?_neg,om,h1,hg,aj];exact ⟨i+1,n+1,⟨by omega,by omega,by omega⟩,by omega,by simp,by simp⟩
  ·have hc2: ¬ (((s.getD i 0).toNat:Int)=46):=fun h=>hc (UInt8.toNat_inj.mp (by show _=46;omega));have hq:ba (s.drop i)=ba (s.drop (i+1)):=by rw [hd];unfold ba;rw [List.count_cons_of_ne (by simpa using hc)]
   generalize s.getD i 0=c at*
   have hc3:((c.toNat:Int)==46)=false:=by simpa using hc2
   simp (maxSteps:=9^9) (disch:=omega) [-List.map_replicate,-List.map_set,-List.getD_eq_getElem?_getD,-getElem?_pos,-getElem?_neg,om,h1,hg,aj,hc2,hc3];exact ⟨i+1,n,⟨by omega,by omega,by omega⟩,by omega,by simp,by simp⟩
 ·rw [List.drop_eq_nil_of_le (by omega)];simp (maxSteps:=9^9) (disch:=omega) [-List.map_replicate,-List.map_set,-List.getD_eq_getElem?_getD,-getElem?_pos,-getElem?_neg,om,h1,ba]
theorem su (s:af) (hs:s.length<1000000):ar cfg 49 [.str s] []=some (ot (ak s), []):=by
 refine ab WI UA ?_;unfold ak;by_cases h3:s.length<3
 ·rw [if_pos (.inl h3)];simp (maxSteps:=9^9) (disch:=omega) [-List.map_replicate,-List.map_set,-List.getD_eq_getElem?_getD,-getElem?_pos,-getElem?_neg,om,G7,h3,ot]
 have hg: ∀i,i<s.length→s[i]?=some (s.getD i 0):=fun i h1=>by simp [List.getD_eq_getElem?_getD,h1]
 have g0:=hg 0 (by omega);have g1:=hg 1 (by omega);by_cases c0:s.getD 0 0=91
 case neg=>
  rw [if_pos (.inr (.inl c0))];have c0': ¬ (((s.getD 0 0).toNat:Int)=91):=fun h=>c0 (UInt8.toNat_inj.mp (by show _=91;omega));generalize s.getD 0 0=x0 at*
  have c0b:((x0.toNat:Int) !=91)=true:=by simpa using c0'
  simp (maxSteps:=9^9) (disch:=omega) [-List.map_replicate,-List.map_set,-List.getD_eq_getElem?_getD,-getElem?_pos,-getElem?_neg,om,G7,h3,ot,g0,aj,c0',c0b]
 by_cases c1:49≤(s.getD 1 0).toNat∧(s.getD 1 0).toNat≤57
 case neg=>
  rw [if_pos (.inr (.inr c1))];have c1':((s.getD 1 0).toNat:Int)<49∨57<((s.getD 1 0).toNat:Int):=by omega
  rw [c0] at g0;generalize s.getD 1 0=x1 at*
  by_cases q:x1.toNat<49
  ·simp (maxSteps:=9^9) (disch:=omega) [-List.map_replicate,-List.map_set,-List.getD_eq_getElem?_getD,-getElem?_pos,-getElem?_neg,om,G7,h3,ot,g0,g1,aj,q]
  ·have q2:57<x1.toNat:=by omega
   simp (maxSteps:=9^9) (disch:=omega) [-List.map_replicate,-List.map_set,-List.getD_eq_getElem?_getD,-getElem?_pos,-getElem?_neg,om,G7,h3,ot,g0,g1,aj,q,q2]
 rw [if_neg (by rintro (h | h | h);exact h3 h;exact h c0;exact h c1)];rw [c0] at g0;obtain ⟨c2,c3⟩:=c1;generalize hP:qR (s.drop 1) 0 1=P at*
 have g1':=g1;generalize s.getD 1 0=x1 at g1 c2 c3;simp (maxSteps:=9^9) (disch:=omega) [-List.map_replicate,-List.map_set,-List.getD_eq_getElem?_getD,-getElem?_pos,-getElem?_neg,om,G7,h3,g0,g1,aj,c2,c3];clear g1' c2 c3 c0;refine Wp.aA (fun (a:Nat×Nat)=>s.length-a.2) (fun a=> [some (.str s),none,none,some (.int .i64 a.1),some (.int .i64 a.2),none,none,none,none]) (fun _=> []) (fun a=>P=qR (s.drop a.2) a.1 a.2∧a.2≤s.length∧a.1≤1073741824) ?_ (0,1) ⟨hP.symm,by simp;omega,by simp⟩ (by simp) rfl;rintro ⟨n,i⟩ ⟨hi,hil,hn⟩;simp only at hi hil hn⊢;rw [hi];clear hi hP;by_cases h1:i<s.length
 ·have hgi:=hg i h1;have hd:=Ac s h1;rw [hd];simp only [qR];generalize s.getD i 0=c at*
  clear hg;by_cases q1:48≤c.toNat
  ·by_cases q2:c.toNat≤57
   ·rw [if_pos ⟨q1,q2⟩];have w1:IntKind.u8.wrap ((c.toNat:Int)-48)=(c.toNat:Int)-48:=by show ((c.toNat:Int)-48)%256=_;omega
    have w2:IntKind.i64.wrap ((c.toNat:Int)-48)=(c.toNat:Int)-48:=wrap_i64 (by omega) (by omega);have w3:IntKind.i64.wrap (10*(n:Int))=10*(n:Int):=wrap_i64 (by omega) (by omega);have w4:IntKind.i64.wrap (10*(n:Int)+((c.toNat:Int)-48))=10*(n:Int)+((c.toNat:Int)-48):=wrap_i64 (by omega) (by omega);by_cases q3:1073741824<10*n+(c.toNat-48)
    ·rw [if_pos q3];have q3':(1073741824:Int)<10*(n:Int)+((c.toNat:Int)-48):=by omega
     simp (maxSteps:=9^9) (disch:=omega) [-List.map_replicate,-List.map_set,-List.getD_eq_getElem?_getD,-getElem?_pos,-getElem?_neg,om,h1,hgi,aj,q1,q2,w1,w2,w3,w4,q3',ot]
    ·rw [if_neg q3];have q3': ¬ (1073741824:Int)<10*(n:Int)+((c.toNat:Int)-48):=by omega
     simp (maxSteps:=9^9) (disch:=omega) [-List.map_replicate,-List.map_set,-List.getD_eq_getElem?_getD,-getElem?_pos,-getElem?_neg,om,h1,hgi,aj,q1,q2,w1,w2,w3,w4,q3'];exact ⟨10*n+(c.toNat-48),i+1,⟨rfl,by omega,by omega⟩,by omega,by omega,by omega⟩
   ·rw [if_neg (fun h=>q2 h.2)];by_cases q4:c=93
    ·subst q4;simp (maxSteps:=9^9) (disch:=omega) [-List.map_replicate,-List.map_set,-List.getD_eq_getElem?_getD,-getElem?_pos,-getElem?_neg,om,h1,hgi,aj,q1,q2,ot]
    ·have q5: ¬ ((c.toNat:Int)=93):=fun h=>q4 (UInt8.toNat_inj.mp (by show _=93;omega));have q6:((c.toNat:Int) !=93)=true:=by simpa using q5
     rw [if_neg q4];simp (maxSteps:=9^9) (disch:=omega) [-List.map_replicate,-List.map_set,-List.getD_eq_getElem?_getD,-getElem?_pos,-getElem?_neg,om,h1,hgi,aj,q1,q2,q5,q6,ot]
  ·rw [if_neg (fun h=>q1 h.1)];have q5: ¬ ((c.toNat:Int)=93):=by omega
   have q6:((c.toNat:Int) !=93)=true:=by simpa using q5
   rw [if_neg (fun h=>by subst h;exact q1 (by decide))];simp (maxSteps:=9^9) (disch:=omega) [-List.map_replicate,-List.map_set,-List.getD_eq_getElem?_getD,-getElem?_pos,-getElem?_neg,om,h1,hgi,aj,q1,q5,q6,ot]
 ·obtain rfl:i=s.length:=by omega
  rw [List.drop_eq_nil_of_le (by omega)];simp (maxSteps:=9^9) (disch:=omega) [-List.map_replicate,-List.map_set,-List.getD_eq_getElem?_getD,-getElem?_pos,-getElem?_neg,om,qR,ot]
theorem LD (c:Ct) (hc:c.ok) (hb: ∀s∈c.ag,s.mark.length<1000000∧s.title.length<1000000) (hcl: ∀u,(cL c.ag u).length≤1000) (s:af) (hs:s.length≤10000):ar cfg 147 [aO c,.str s] []=some (.str (bw (cL c.ag) s), []):=by
 refine ab UB PL ?_;have w:=fun u=>yu c hc u hb;generalize cL c.ag=nm at*
 unfold aO bU at*
 generalize ao c.aa=L1 at*
 generalize c.aq.map bF=L2 at*
 generalize c.ag.map aI=L3 at*
 simp (maxSteps:=9^9) (disch:=omega) [-List.map_replicate,-List.map_set,-List.getD_eq_getElem?_getD,-getElem?_pos,-getElem?_neg,om,MU];refine Wp.aA (fun (a:af×af)=>a.1.length) (fun a=> [none,some (.str a.1),some (.ptr 0 0),none,some (.str a.2),none,none,none,none,none,none]) (fun _=> [.var 26 [.ah c.ln c.lz L1,.ah c.bn c.bz L2,.ah c.sn c.sz L3]]) (fun a=>bw nm s=a.2++bw nm a.1∧a.1.length≤10000∧a.2.length≤1000*(10000-a.1.length)) ?_ (s, []) ⟨by simp,hs,by simp⟩ (by simp) rfl;rintro ⟨t,out⟩ ⟨hi,htl,hol⟩;simp only at hi htl hol⊢;rw [hi];clear hi;cases t with
 | nil=>simp (maxSteps:=9^9) (disch:=omega) [-List.map_replicate,-List.map_set,-List.getD_eq_getElem?_getD,-getElem?_pos,-getElem?_neg,om,jB]
 | cons x r=>
  have hp:=su (x::r) (by omega);unfold ot at hp;have hrl:(x::r).length=r.length+1:=rfl;by_cases h0:(ak (x::r)).2=0
  ·rw [lp nm _ _ h0];rw [h0] at hp;generalize (ak (x::r)).1=p1 at*
   rw [hrl] at htl hol;simp (maxSteps:=9^9) (disch:=omega) [-List.map_replicate,-List.map_set,-List.getD_eq_getElem?_getD,-getElem?_pos,-getElem?_neg,om,hp,hrl];exact ⟨r,out++ [x],⟨by simp,by omega,by simp;omega⟩,by omega,by simp⟩
  ·rw [j7 nm _ h0];obtain ⟨q1,q2,q3,q4,q5⟩:=(di (x::r)).resolve_left (fun h=>h0 (by rw [h]));obtain ⟨n,hn⟩: ∃n:Nat,(ak (x::r)).2=n:=⟨(ak (x::r)).2.toNat,by omega⟩;rw [hn] at hp q3 q4 h0⊢;rw [Int.toNat_natCast];have w1:=w (ak (x::r)).1;have hcl1:=hcl (ak (x::r)).1;generalize (ak (x::r)).1=p1 at*
   generalize nm p1=y at*
   have hne:(x::r)≠ []:=by simp
   generalize x::r=t at*
   have h0': ¬ (n:Int)=0:=h0;have hnl:n≤t.length:=by omega
   have hdl:(t.drop n).length=t.length-n:=by simp
   clear hn q1 q2 q5;simp (maxSteps:=9^9) (disch:=omega) [-List.map_replicate,-List.map_set,-List.getD_eq_getElem?_getD,-getElem?_pos,-getElem?_neg,om,hp,hne,h0',w1,hnl];exact ⟨t.drop n,out++y,⟨by simp,by omega,by simp;omega⟩,by omega,by simp⟩
theorem JC {l:List Sh} {root:Int} {i:Nat} {s:Sh} (hs:l[i]?=some s) (h:pz l root i=true):s.unit=root∨(s.unit≠root∧ ∃j,aG (l.take i) s.par=some j∧j<i∧pz l root j=true):=by
 unfold pz at h⊢;rw [cA hs] at h;by_cases hu:s.unit=root
 ·exact .inl hu
 ·right;refine ⟨hu,?_⟩;rw [List.contains_cons] at h;have h1:(root==s.unit)=false:=by simpa using Ne.symm hu
  rw [h1,Bool.false_or] at h;split at h
  ·cases h
  ·cases hx:aG (l.take i) s.par with
   | none=>rw [hx] at h;cases h
   | some j=>rw [hx] at h;have:=cB hx;simp only [List.length_take] at this;exact ⟨j,rfl,by omega,h⟩
theorem El (p:Nat→Bool): ∀n,rZ p n≤n
 | 0=>Nat.le_refl _
 | n+1=>by
  have:=El p n;rw [rZ];split <;> omega
theorem JD {l:List Sh} {root:Int} {i:Nat} (hi:i<l.length):kX Lib.itoa l root i≠ []:=by rw [r8 Lib.itoa (List.getElem?_eq_getElem hi)];split <;> simp
theorem Cv (c:Ct) (hc:c.ok) (root:Int): ∀(i:Nat),pz c.ag root i=true→i<c.ag.length→
  ar cfg 93 [aO c,.int .i64 root,.int .i64 i] []=some (.str (kX Lib.itoa c.ag root i), [])∧(kX Lib.itoa c.ag root i).length≤30*(i+1):=by
 intro i
 induction i using Nat.strongRecOn with
 | _ i ih=>
 intro hin hil;have hsz:=hc.sz (ne_of_lt hil);have hsl:=hc.sl;have hg:=fP c.ag hil;have hgk:=fun k (h:k<c.ag.length)=>fP c.ag h;have hpk: ∀k (h:k<c.ag.length),r7 c.ag c.ag[i].par k=decide (c.ag[k].par=c.ag[i].par):=fun k h=>by unfold r7;rw [List.getElem?_eq_getElem h]
 have hEl:(c.ag.map aI).length=c.ag.length:=by simp
 have hn:=r8 Lib.itoa (root:=root) (List.getElem?_eq_getElem hil);have x2:=iH c hc i (by omega) c.ag[i].par;rcases JC (List.getElem?_eq_getElem hil) hin with hu | ⟨hu,j,hj,hji,hjin⟩
 ·rw [if_pos hu] at hn;rw [hn];refine ⟨?_,by simp;omega⟩;refine ab UC MV ?_;clear hgk hpk x2 ih;unfold aO bU at*
  generalize c.ag[i]=x at*
  generalize ao c.aa=L1 at*
  generalize c.aq.map bF=L2 at*
  generalize c.ag.map aI=L3 at*
  rw [hsz] at*
  simp (maxSteps:=9^9) (disch:=omega) [-List.map_replicate,-List.map_set,-List.getD_eq_getElem?_getD,-getElem?_pos,-getElem?_neg,om,PM,hg,hu]
 ·rw [if_neg hu,hj] at hn;obtain ⟨y1,y2⟩:=ih j hji hjin (by omega);have hcl:=El (r7 c.ag c.ag[i].par) (i+1);have hit:=Lib.itoa_length_le (rZ (r7 c.ag c.ag[i].par) (i+1):Int) (by omega) (by omega);rw [hj] at x2;rw [hn];simp only at*
  refine ⟨?_,by simp only [List.length_append,List.length_cons,List.length_nil];omega⟩;refine ab UC MV ?_;clear ih hn;generalize hp:r7 c.ag c.ag[i].par=p at*
  generalize kX Lib.itoa c.ag root j=nj at*
  have hu2:(c.ag[i].unit==root)=false:=by simpa using hu
  unfold aO bU at*
  generalize c.ag[i]=x at*
  generalize ao c.aa=L1 at*
  generalize c.aq.map bF=L2 at*
  generalize hS:c.ag=S at*
  generalize S.map aI=L3 at*
  rw [hsz] at*
  simp (maxSteps:=9^9) (disch:=omega) [-List.map_replicate,-List.map_set,-List.getD_eq_getElem?_getD,-getElem?_pos,-getElem?_neg,om,PM,hg,hu,hu2];refine Wp.aA (fun (k:Nat)=>i+1-k) (fun k=> [none,some (.int .i64 root),some (.int .i64 i),some (.ptr 0 0),none,some (.int .i64 (rZ p k)),some (.int .i64 k),none,none,none,none,none,none,none]) (fun _=> [.var 26 [.ah c.ln c.lz L1,.ah c.bn c.bz L2,.ah c.sn 6 L3]]) (fun k=>k≤i+1) ?_ 0 (by omega) (by simp [rZ]) rfl;intro k hk;have hck:=El p k;by_cases h1:k≤i
  ·have hgk1:=hgk k (by omega);have hpk1:=hpk k (by omega);have hcs:rZ p (k+1)=rZ p k+if p k=true then 1 else 0:=rfl;rw [hpk1] at hcs;generalize S[k]=y at*
   clear hgk hpk;by_cases e:y.par=x.par
   ·rw [if_pos (by simpa using e)] at hcs;simp (maxSteps:=9^9) (disch:=omega) [-List.map_replicate,-List.map_set,-List.getD_eq_getElem?_getD,-getElem?_pos,-getElem?_neg,om,h1,hg,hgk1,hEl,hil,e];exact ⟨k+1,by omega,by omega,by rw [hcs];simp,by simp⟩
   ·rw [if_neg (by simpa using e)] at hcs;have e2:(y.par==x.par)=false:=by simpa using e
    simp (maxSteps:=9^9) (disch:=omega) [-List.map_replicate,-List.map_set,-List.getD_eq_getElem?_getD,-getElem?_pos,-getElem?_neg,om,h1,hg,hgk1,hEl,hil,e,e2];exact ⟨k+1,by omega,by omega,by rw [hcs];simp,by simp⟩
  ·obtain rfl:k=i+1:=by omega
   have hid1: -9223372036854775808≤(rZ p (i+1):Int):=by omega
   have hid2:(rZ p (i+1):Int)≤9223372036854775807:=by omega
   clear hgk hpk;simp only [az] at x2;generalize hc1:rZ p (i+1)=pl at*
   generalize hit2:Lib.itoa (pl:Int)=it at*
   simp (maxSteps:=9^9) (disch:=omega) [-List.map_replicate,-List.map_set,-List.getD_eq_getElem?_getD,-getElem?_pos,-getElem?_neg,om,hg,hEl,hil,x2,y1,sB,hid1,hid2,hit2]
theorem yv (c:Ct) (hc:c.ok) (lang:af) (hch:ar cfg 51 [aO c] []=some (.int .i64 (dh c), [])):ar cfg 94 [aO c,.str lang] []=some (.bool (aD c lang), []):=by
 refine ab WJ UD ?_;have hh:=oc c.ln c.lz c.aa hc.lz hc.ll lang;unfold aD;unfold aO bU at*
 generalize dh c=e at*
 generalize bX c.aa lang=b at*
 generalize ao c.aa=L1 at*
 generalize c.aq.map bF=L2 at*
 generalize c.ag.map aI=L3 at*
 by_cases h0:e=0
 ·simp (maxSteps:=9^9) (disch:=omega) [-List.map_replicate,-List.map_set,-List.getD_eq_getElem?_getD,-getElem?_pos,-getElem?_neg,om,PN,hch,hh,h0]
 ·have h1:(e==0)=false:=by simpa using h0
  simp (maxSteps:=9^9) (disch:=omega) [-List.map_replicate,-List.map_set,-List.getD_eq_getElem?_getD,-getElem?_pos,-getElem?_neg,om,PN,hch,hh,h0,h1]
theorem PO {c:Ct} (hk:dh c=0):(∀s∈c.ag,s.mark.length<1000000∧s.title.length<1000000)∧(∀q∈c.aq,q.text.length<1000000)∧ ∀u,(cL c.ag u).length≤1000:=by
 have h:=b9 hk;have h1: ∀s∈c.ag,s.mark.length≤64∧s.title.length≤64:=fun s hs=>⟨(h.ag s hs).mark,(h.ag s hs).wB⟩;refine ⟨fun s hs=>by have:=h1 s hs;omega,fun q hq=>by have:=(h.aq q hq).len;omega,fun u=> ?_⟩;unfold cL;cases hx:aG c.ag u with
 | none=>simp
 | some i=>
  simp only;cases hs:c.ag[i]? with
  | none=>simp
  | some s=>
   have:=h1 s (List.mem_of_getElem? hs);simp only;split
   ·omega
   ·simp only [List.length_append,List.length_cons,List.length_nil];omega
theorem zN (c:Ct) (hc:c.ok) (root u:Int):
  ar cfg 46 [aO c,.int .i64 root,.int .i64 u] []=some (.aT (if dh c=0 then [.str (gb Lib.itoa c root u),.bool (decide (gb Lib.itoa c root u≠ []))] else [.str [],.bool false]), []):=by
 refine ab WK UE ?_;have w1:=n9 c hc;have w2:=iH c hc c.ag.length (Nat.le_refl _) u;rw [List.take_length] at w2;have hEl:(c.ag.map aI).length=c.ag.length:=by simp
 by_cases hk:dh c=0
 case neg=>
  rw [if_neg hk];unfold aO bU at*
  generalize dh c=e at*
  generalize ao c.aa=L1 at*
  generalize c.aq.map bF=L2 at*
  generalize c.ag.map aI=L3 at*
  simp (maxSteps:=9^9) (disch:=omega) [-List.map_replicate,-List.map_set,-List.getD_eq_getElem?_getD,-getElem?_pos,-getElem?_neg,om,JE,w1,hk]
 rw [if_pos hk];rw [hk] at w1;obtain ⟨V,hV⟩: ∃V,V=gb Lib.itoa c root u:=⟨_,rfl⟩;rw [←hV];unfold gb at hV;cases hx:aG c.ag u with
 | none=>
  rw [hx] at w2 hV;simp only at hV;subst hV;unfold aO bU at*
  generalize ao c.aa=L1 at*
  generalize c.aq.map bF=L2 at*
  generalize c.ag.map aI=L3 at*
  simp (maxSteps:=9^9) (disch:=omega) [-List.map_replicate,-List.map_set,-List.getD_eq_getElem?_getD,-getElem?_pos,-getElem?_neg,om,JE,w1,w2,hEl,az]
 | some i=>
  rw [hx] at w2 hV;have hi:=cB hx;have w3:=qZ c hc (some i) (fun j h=>by cases h;exact hi);have w4:=Ek none 1 (chain c.ag i) (fun _=>rfl) (by have:=od (l:=c.ag) i;have:=hc.sl;omega) root;have hb:sv (chain c.ag i) root=pz c.ag root i:=ug _ _;rw [hb] at w4;simp only [gh,az] at w3 w2 hV;have w5:=Cv c hc root i;have hne:=JD (root:=root) hi;cases hin:pz c.ag root i with
  | false=>
   rw [hin] at w4 hV;clear w5;rw [if_neg (by simp)] at hV;subst hV;unfold aO bU at*
   generalize ao c.aa=L1 at*
   generalize c.aq.map bF=L2 at*
   generalize c.ag.map aI=L3 at*
   generalize chain c.ag i=CC at*
   simp (maxSteps:=9^9) (disch:=omega) [-List.map_replicate,-List.map_set,-List.getD_eq_getElem?_getD,-getElem?_pos,-getElem?_neg,om,JE,w1,w2,w3,w4,hEl]
  | true=>
   obtain ⟨w6,_⟩:=w5 hin hi;rw [hin] at w4 hV;rw [if_pos rfl] at hV;rw [←hV] at w6 hne;have hd:decide (V≠ [])=true:=by simpa using hne
   rw [hd];clear w5 hV;unfold aO bU at*
   generalize ao c.aa=L1 at*
   generalize c.aq.map bF=L2 at*
   generalize c.ag.map aI=L3 at*
   generalize chain c.ag i=CC at*
   simp (maxSteps:=9^9) (disch:=omega) [-List.map_replicate,-List.map_set,-List.getD_eq_getElem?_getD,-getElem?_pos,-getElem?_neg,om,JE,w1,w2,w3,w4,w6,hEl]
theorem Cq (c:Ct) (hc:c.ok) (u:Int) (s:af): ∃nl z,ar cfg 47 [aO c,.int .i64 u,.str s] []=some (.ah nl z ((cn c u s).map cU), [])∧(cn c u s≠ []→z=3):=by
 have w1:=yv c hc s (n9 c hc);have w2:=iH c hc c.ag.length (Nat.le_refl _) u;rw [List.take_length] at w2;have hEl:(c.ag.map aI).length=c.ag.length:=by simp
 unfold cn dZ bD;cases hr:aD c s with
 | false=>
  rw [hr] at w1;refine ⟨some true,0,ab PQ JF ?_,by simp⟩;unfold aO bU at*
  generalize ao c.aa=L1 at*
  generalize c.aq.map bF=L2 at*
  generalize c.ag.map aI=L3 at*
  simp (maxSteps:=9^9) (disch:=omega) [-List.map_replicate,-List.map_set,-List.getD_eq_getElem?_getD,-getElem?_pos,-getElem?_neg,om,LF,w1]
 | true=>
  rw [hr] at w1;rw [if_pos rfl];cases hx:aG c.ag u with
  | none=>
   rw [hx] at w2;refine ⟨some true,0,ab PQ JF ?_,by simp [aW,bR]⟩;simp only [aW,bR];unfold aO bU at*
   generalize ao c.aa=L1 at*
   generalize c.aq.map bF=L2 at*
   generalize c.ag.map aI=L3 at*
   simp (maxSteps:=9^9) (disch:=omega) [-List.map_replicate,-List.map_set,-List.getD_eq_getElem?_getD,-getElem?_pos,-getElem?_neg,om,LF,w1,w2,hEl,az]
  | some i=>
   rw [hx] at w2;have hi:=cB hx;have hgo:c.ag[i]?=some c.ag[i]:=List.getElem?_eq_getElem hi;have hg:=fP c.ag hi;have hsz:=hc.sz (ne_of_lt hi);have hso:=hc.sh _ (List.getElem_mem hi);have w3:=zO c hc s
   have hol:(au c.aa s).length<1000001:=by unfold au;have:=List.length_filter_le (fun x=> !(x==s)) c.aa;have:=hc.ll;simp only [List.length_cons];omega
   have hk:=b9 (dR hr).1
   have hol2:(au c.aa s).length<1000000:=by unfold au;have:=List.length_filter_le (fun x=> !(x==s)) c.aa;have:=hk.l2;simp only [List.length_cons];omega
   have w4:=Fy c.ag[i].fn c.ag[i].fz c.ag[i].facts hso.fz hso.fl (au c.aa s) hol2;simp only [hgo];refine ⟨none,3,ab PQ JF ?_,fun _=>rfl⟩;simp only [az] at w2;generalize (aW (au c.aa s) c.ag[i].facts).map cU=CA at*
   generalize au c.aa s=order at*
   clear hk hso hol;unfold aO bU at*
   generalize c.ag[i]=x at*
   generalize ao c.aa=L1 at*
   generalize c.aq.map bF=L2 at*
   generalize c.ag.map aI=L3 at*
   rw [hsz] at*
   simp (maxSteps:=9^9) (disch:=omega) [-List.map_replicate,-List.map_set,-List.getD_eq_getElem?_getD,-getElem?_pos,-getElem?_neg,om,LF,w1,w2,w3,w4,hEl,hg]
theorem G3 (c:Ct) (hc:c.ok) (el:Int) (s:af):ar cfg 54 [aO c,.int .i64 el,.str s] []=some (.str (if el<1∨64<el∨aD c s=false then [] else il (au c.aa s) c.aq el (cV Lib.itoa el)), []):=by
 refine ab WL UF ?_;have w1:=yv c hc s (n9 c hc);cases hr:aD c s with
 | false=>
  rw [hr] at w1;rw [if_pos (.inr (.inr rfl))];unfold aO bU at*
  generalize ao c.aa=L1 at*
  generalize c.aq.map bF=L2 at*
  generalize c.ag.map aI=L3 at*
  simp (maxSteps:=9^9) (disch:=omega) [-List.map_replicate,-List.map_set,-List.getD_eq_getElem?_getD,-getElem?_pos,-getElem?_neg,om,JG,w1]
 | true=>
  rw [hr] at w1;by_cases h1:el<1
  ·rw [if_pos (.inl h1)];unfold aO bU at*
   generalize ao c.aa=L1 at*
   generalize c.aq.map bF=L2 at*
   generalize c.ag.map aI=L3 at*
   simp (maxSteps:=9^9) (disch:=omega) [-List.map_replicate,-List.map_set,-List.getD_eq_getElem?_getD,-getElem?_pos,-getElem?_neg,om,JG,w1,h1]
  by_cases h2:64<el
  ·rw [if_pos (.inr (.inl h2))];unfold aO bU at*
   generalize ao c.aa=L1 at*
   generalize c.aq.map bF=L2 at*
   generalize c.ag.map aI=L3 at*
   simp (maxSteps:=9^9) (disch:=omega) [-List.map_replicate,-List.map_set,-List.getD_eq_getElem?_getD,-getElem?_pos,-getElem?_neg,om,JG,w1,h1,h2]
  rw [if_neg (by rintro (h | h | h);exact h1 h;exact h2 h;cases h)];have w2:=yt c hc el (by omega) s (PO (dR hr).1).2.1;generalize il (au c.aa s) c.aq el (cV Lib.itoa el)=r at*
  unfold aO bU at*
  generalize ao c.aa=L1 at*
  generalize c.aq.map bF=L2 at*
  generalize c.ag.map aI=L3 at*
  simp (maxSteps:=9^9) (disch:=omega) [-List.map_replicate,-List.map_set,-List.getD_eq_getElem?_getD,-getElem?_pos,-getElem?_neg,om,JG,w1,w2,h1,h2]
theorem G4 (c:Ct) (hc:c.ok) (u:Int):ar cfg 55 [aO c,.int .i64 u] []=some (.str (if dh c=0 then cL c.ag u else []), []):=by
 refine ab WM UG ?_;have w1:=n9 c hc;by_cases hk:dh c=0
 ·rw [if_pos hk];rw [hk] at w1;have w2:=yu c hc u (PO hk).1;generalize cL c.ag u=r at*
  unfold aO bU at*
  generalize ao c.aa=L1 at*
  generalize c.aq.map bF=L2 at*
  generalize c.ag.map aI=L3 at*
  simp (maxSteps:=9^9) (disch:=omega) [-List.map_replicate,-List.map_set,-List.getD_eq_getElem?_getD,-getElem?_pos,-getElem?_neg,om,PR,w1,w2]
 ·rw [if_neg hk];unfold aO bU at*
  generalize dh c=e at*
  generalize ao c.aa=L1 at*
  generalize c.aq.map bF=L2 at*
  generalize c.ag.map aI=L3 at*
  simp (maxSteps:=9^9) (disch:=omega) [-List.map_replicate,-List.map_set,-List.getD_eq_getElem?_getD,-getElem?_pos,-getElem?_neg,om,PR,w1,hk]
set_option maxHeartbeats 8000000
theorem G8 (order:List af) (l:List Fc) (el:Int):(oE order l el).length≤1:=by unfold oE;split <;> simp
theorem iI (order:List af) (l:List Fc): ∀(r:List Fc) (p:Option Int),(bR order l p r).length≤r.length
 | [],_=>by simp [bR]
 | f::r,p=>by
  unfold bR;have h1:=iI order l r (some f.el);have h2:=G8 order l f.el;split
  ·simp only [List.length_cons];omega
  ·simp only [List.length_append,List.length_cons];omega
theorem gg {order:List af} {l:List Fc}: ∀{r:List Fc} {p:Option Int} {f:Fc},f∈bR order l p r→f∈l
 | [],_,_,h=>by simp [bR] at h
 | x::r,p,f,h=>by
  unfold bR at h;split at h
  ·exact gg h
  ·rcases List.mem_append.1 h with h | h
   ·unfold oE at h;split at h
    ·rename_i g hg;rw [List.mem_singleton] at h;subst h;exact (ko (order:=order) _ hg).1
    ·cases h
   ·exact gg h
theorem G9 {order:List af} {aq:List Lb} (hb: ∀q∈aq,q.text.length<1000000) (el:Int) (d:af) (hd:d.length<1000000):(il order aq el d).length<1000000:=by
 unfold il;split
 ·rename_i t ht;obtain ⟨f,hf,rfl,_⟩:=iz order ht;exact hb f hf
 ·exact hd
theorem LG (c:Ct) (hc:c.ok) (hk:dh c=0) (root:Int) (i:Nat) (hi:i<c.ag.length) (hin:pz c.ag root i=true) (lang:af):
  ar cfg 92 [aO c,.int .i64 root,.int .i64 i,.str lang] []=some (cp (DY Lib.itoa (au c.aa lang) c (c.ag[i],kX Lib.itoa c.ag root i)), []):=by
 refine ab WN UH ?_;have hok:=b9 hk;obtain ⟨hb1,hb2,hb3⟩:=PO hk;have hg:=fP c.ag hi;have hEl:(c.ag.map aI).length=c.ag.length:=by simp
 have hsz:=hc.sz (ne_of_lt hi);have hso:=hc.sh _ (List.getElem_mem hi);have hsk:=hok.ag _ (List.getElem_mem hi);obtain ⟨w1,hnl⟩:=Cv c hc root i hin hi;have hl256:c.ag.length≤256:=hok.FI;have w2:=G6 (kX Lib.itoa c.ag root i) (by omega);have w3:=Fu c.ag[i].level hsk.l1 hsk.l2;have w4:=zO c hc lang
 have hol2:(au c.aa lang).length<1000000:=by unfold au;have:=List.length_filter_le (fun x=> !(x==lang)) c.aa;have:=hok.l2;simp only [List.length_cons];omega
 have w5:=Fy c.ag[i].fn c.ag[i].fz c.ag[i].facts hso.fz hso.fl (au c.aa lang) hol2;have w6:=fun el hel=>yt c hc el hel lang hb2;have w7:=fun t ht=>LD c hc hb1 hb3 t ht;have hfm: ∀f∈aW (au c.aa lang) c.ag[i].facts,wP c.aa f:=fun f hf=>hsk.facts f (gg hf);have hfl:(aW (au c.aa lang) c.ag[i].facts).length≤32:=Nat.le_trans (iI _ _ _ _) hsk.DX;have hnb:=fun el=>G9 (order:=au c.aa lang) hb2 el;generalize hnum:kX Lib.itoa c.ag root i=num at*
 have hsecN:(DY Lib.itoa (au c.aa lang) c (c.ag[i],num)).nodes=⟨ba num,dD c.ag[i].level,num++32::c.ag[i].title⟩::(mm (ba num+1) c.ag[i]++(aW (au c.aa lang) c.ag[i].facts).map (vW Lib.itoa (au c.aa lang) c (ba num+1))):=by simp [DY]
 have hse:cp (DY Lib.itoa (au c.aa lang) c (c.ag[i],num))= .agg [.int .i64 c.ag[i].unit,.str num,.ah none 3 ((DY Lib.itoa (au c.aa lang) c (c.ag[i],num)).nodes.map ie)]:=rfl;rw [hse,hsecN];have hFN: ∀f,vW Lib.itoa (au c.aa lang) c ((ba num:Int)+1) f=⟨(ba num:Int)+1, [112],il (au c.aa lang) c.aq f.el (cV Lib.itoa f.el)++58::32::bw (cL c.ag) f.text⟩:=fun f=>by simp [vW]
 have hCHm: ∀j (h:j<(aW (au c.aa lang) c.ag[i].facts).length),((aW (au c.aa lang) c.ag[i].facts).map cU)[j]?=some (.agg [.int .i64 (aW (au c.aa lang) c.ag[i].facts)[j].el,.str (aW (au c.aa lang) c.ag[i].facts)[j].lang,.str (aW (au c.aa lang) c.ag[i].facts)[j].text]):=fun j h=>get_map _ _ h;have hCl:((aW (au c.aa lang) c.ag[i].facts).map cU).length=(aW (au c.aa lang) c.ag[i].facts).length:=by simp
 have hxs:=fun t=>mi hb3 t;generalize hFNd:vW Lib.itoa (au c.aa lang) c ((ba num:Int)+1)=FN at*
 generalize aW (au c.aa lang) c.ag[i].facts=CH at*
 generalize CH.map cU=CA at*
 generalize au c.aa lang=order at*
 clear hsecN hse hok hb1 hb2 hb3 hso hFNd hnum hin;have htl:=hsk.wB;clear hsk;have hdl:ba num≤num.length:=List.count_le_length;have hw:IntKind.i64.wrap ((ba num:Int)+1)=ba num+1:=wrap_i64 (by omega) (by omega);generalize bw (cL c.ag)=xp at*
 unfold aO bU at*
 generalize c.ag[i]=x at*
 generalize ao c.aa=L1 at*
 generalize c.aq.map bF=L2 at*
 generalize c.ag.map aI=L3 at*
 rw [hsz] at*
 generalize x.facts.map cU=FA at*
 generalize hNF:(⟨ba num,dD x.level,num++32::x.title⟩::(mm (ba num+1) x++CH.map FN):List Nd)=NF at*
 by_cases hmk:x.mark= []
 ·rw [hmk] at hg;simp (maxSteps:=9^9) (disch:=omega) [-List.map_replicate,-List.map_set,-List.getD_eq_getElem?_getD,-getElem?_pos,-getElem?_neg,om,PS,hg,hEl,hi,w1,w2,w3,w4,w5,ae,hCl]
  refine Wp.aA (fun (a:Nat×List Nd)=>CH.length-a.1) (fun a=> [none,none,none,some (.str lang),some (.ptr 0 0),some (.ptr 1 0),none,none,some (.int .i64 (ba num)),some (.ptr 5 0),some (.ah none 3 CA),some (.int .i64 a.1),none,none,none,none,none,none,none,none,none,none,none,none,none,none,none,none,none,none,none,none,none,none,none]) (fun a=> [.var 26 [.ah c.ln c.lz L1,.ah c.bn c.bz L2,.ah c.sn 6 L3],.var 46 [.int .i64 0,.str [],.ay 2 0],.sl ⟨false,some 75,none⟩ 3 [],.var 73 [.int .i64 x.unit,.int .i64 x.par,.int .i64 x.level,.str [],.str x.title,.ah x.fn x.fz FA],.sl ⟨false,some 75,none⟩ 3 (a.2.map ie),.var 46 [.int .i64 x.unit,.str num,.ay 4 a.2.length]])
   (fun a=>NF=a.2++(CH.drop a.1).map FN∧a.1≤CH.length∧a.2.length≤a.1+2) ?_ (0, [⟨ba num,dD x.level,num++32::x.title⟩]) ⟨by simp [←hNF,mm,hmk],by simp,by simp⟩ (by simp) (by simp [ie])
  rintro ⟨j,N⟩ ⟨hj,hjl,hNl⟩;simp only at hj hjl hNl⊢;rw [hj];by_cases h1:j<CH.length
  ·have hgj:=hCHm j h1;have hfk:=hfm _ (List.getElem_mem h1);rw [List.drop_eq_getElem_cons h1,List.map_cons] at hj⊢;have hFNj:=hFN CH[j];have hNm:(N.map ie).length=N.length:=by simp
   have Hy:=hfk.Hy;have Hz:=hfk.Hz;have tl:=hfk.len;have hn:=w6 CH[j].el (by omega);have hx:=w7 CH[j].text (by omega);have hxtl:=hxs CH[j].text;have hit:=Lib.itoa_length_le CH[j].el (by omega) (by omega);have hnml:=hnb CH[j].el (cV Lib.itoa CH[j].el) (by unfold cV;simp;omega);clear hCHm hfm hFN w6 w7 hxs hnb hj hNF hit;generalize CH[j]=f at*
   generalize il order c.aq f.el (cV Lib.itoa f.el)=nm at*
   generalize xp f.text=xt at*
   simp (maxSteps:=9^9) (disch:=omega) [-List.map_replicate,-List.map_set,-List.getD_eq_getElem?_getD,-getElem?_pos,-getElem?_neg,om,h1,hgj,ae,hn,hx,hw,hNm,hCl];refine ⟨j+1,N++ [FN f],⟨by simp,by omega,by simp;omega⟩,by omega,?_⟩;exact ⟨by simp,by simp [ie,hFNj],by simp⟩
  ·rw [List.drop_eq_nil_of_le (by omega),List.map_nil,List.append_nil] at hj⊢;simp (maxSteps:=9^9) (disch:=omega) [-List.map_replicate,-List.map_set,-List.getD_eq_getElem?_getD,-getElem?_pos,-getElem?_neg,om,h1,ae,hCl]
 ·simp (maxSteps:=9^9) (disch:=omega) [-List.map_replicate,-List.map_set,-List.getD_eq_getElem?_getD,-getElem?_pos,-getElem?_neg,om,PS,hg,hEl,hi,w1,w2,w3,w4,w5,ae,hCl,hmk,hw]
  refine Wp.aA (fun (a:Nat×List Nd)=>CH.length-a.1) (fun a=> [none,none,none,some (.str lang),some (.ptr 0 0),some (.ptr 1 0),none,none,some (.int .i64 (ba num)),some (.ptr 5 0),some (.ah none 3 CA),some (.int .i64 a.1),none,none,none,none,none,none,none,none,none,none,none,none,none,none,none,none,none,none,none,none,none,none,none]) (fun a=> [.var 26 [.ah c.ln c.lz L1,.ah c.bn c.bz L2,.ah c.sn 6 L3],.var 46 [.int .i64 0,.str [],.ay 2 0],.sl ⟨false,some 75,none⟩ 3 [],.var 73 [.int .i64 x.unit,.int .i64 x.par,.int .i64 x.level,.str x.mark,.str x.title,.ah x.fn x.fz FA],.sl ⟨false,some 75,none⟩ 3 (a.2.map ie),.var 46 [.int .i64 x.unit,.str num,.ay 4 a.2.length],.sl ⟨false,some 75,none⟩ 3 [.agg [.int .i64 ((ba num:Int)+1),.str [109,97,114,107],.str x.mark]],.dead])
   (fun a=>NF=a.2++(CH.drop a.1).map FN∧a.1≤CH.length∧a.2.length≤a.1+2) ?_ (0, [⟨ba num,dD x.level,num++32::x.title⟩,⟨(ba num:Int)+1, [109,97,114,107],x.mark⟩]) ⟨by simp [←hNF,mm,hmk],by simp,by simp⟩ (by simp) (by simp [ie])
  rintro ⟨j,N⟩ ⟨hj,hjl,hNl⟩;simp only at hj hjl hNl⊢;rw [hj];by_cases h1:j<CH.length
  ·have hgj:=hCHm j h1;have hfk:=hfm _ (List.getElem_mem h1);rw [List.drop_eq_getElem_cons h1,List.map_cons] at hj⊢;have hFNj:=hFN CH[j];have hNm:(N.map ie).length=N.length:=by simp
   have Hy:=hfk.Hy;have Hz:=hfk.Hz;have tl:=hfk.len;have hn:=w6 CH[j].el (by omega);have hx:=w7 CH[j].text (by omega);have hxtl:=hxs CH[j].text;have hit:=Lib.itoa_length_le CH[j].el (by omega) (by omega);have hnml:=hnb CH[j].el (cV Lib.itoa CH[j].el) (by unfold cV;simp;omega);clear hCHm hfm hFN w6 w7 hxs hnb hj hNF hit;generalize CH[j]=f at*
   generalize il order c.aq f.el (cV Lib.itoa f.el)=nm at*
   generalize xp f.text=xt at*
   simp (maxSteps:=9^9) (disch:=omega) [-List.map_replicate,-List.map_set,-List.getD_eq_getElem?_getD,-getElem?_pos,-getElem?_neg,om,h1,hgj,ae,hn,hx,hw,hNm,hCl];refine ⟨j+1,N++ [FN f],⟨by simp,by omega,by simp;omega⟩,by omega,?_⟩;exact ⟨by simp,by simp [ie,hFNj],by simp⟩
  ·rw [List.drop_eq_nil_of_le (by omega),List.map_nil,List.append_nil] at hj⊢;simp (maxSteps:=9^9) (disch:=omega) [-List.map_replicate,-List.map_set,-List.getD_eq_getElem?_getD,-getElem?_pos,-getElem?_neg,om,h1,ae,hCl]
theorem yw (it:Int→af) (l:List Sh) (root:Int): ∀(r:List Sh) (i:Nat),(fG it l root i r).length≤r.length
 | [],_=>by simp [fG]
 | s::r,i=>by
  have:=yw it l root r (i+1);unfold fG;split <;> simp only [List.length_cons] <;> omega
theorem wx (c:Ct) (hc:c.ok) (root:Int) (lang:af):
  ar cfg 45 [aO c,.int .i64 root,.str lang] []=some (.aT [if cO c root lang=0 then wC root lang (K9 Lib.itoa c root lang) else CT,.int .i64 (cO c root lang)], []):=by
 refine ab WO UI ?_;have w1:=n9 c hc;have w2:=oc c.ln c.lz c.aa hc.lz hc.ll lang;have w3:=iH c hc c.ag.length (Nat.le_refl _) root;rw [List.take_length] at w3;have hEl:(c.ag.map aI).length=c.ag.length:=by simp
 unfold wC CT;by_cases hk:dh c=0
 case neg=>
  have key:cO c root lang=1:=by unfold cO;rw [if_pos hk]
  rw [key];unfold aO bU at*
  generalize dh c=e at*
  generalize ao c.aa=L1 at*
  generalize c.aq.map bF=L2 at*
  generalize c.ag.map aI=L3 at*
  simp (maxSteps:=9^9) (disch:=omega) [-List.map_replicate,-List.map_set,-List.getD_eq_getElem?_getD,-getElem?_pos,-getElem?_neg,om,JH,w1,hk,ae]
 have hk0: ¬ dh c≠0:=by simpa using hk
 rw [hk] at w1;cases hh:bX c.aa lang with
 | false=>
  rw [hh] at w2;have key:cO c root lang=10:=by unfold cO;rw [if_neg hk0,if_pos hh]
  rw [key];unfold aO bU at*
  generalize ao c.aa=L1 at*
  generalize c.aq.map bF=L2 at*
  generalize c.ag.map aI=L3 at*
  simp (maxSteps:=9^9) (disch:=omega) [-List.map_replicate,-List.map_set,-List.getD_eq_getElem?_getD,-getElem?_pos,-getElem?_neg,om,JH,w1,w2,ae]
 | true=>
  rw [hh] at w2;have hh0: ¬ bX c.aa lang=false:=by rw [hh];simp
  cases hx:aG c.ag root with
  | none=>
   rw [hx] at w3;have key:cO c root lang=7:=by unfold cO;rw [if_neg hk0,if_neg hh0,hx];rfl
   rw [key];unfold aO bU at*
   generalize ao c.aa=L1 at*
   generalize c.aq.map bF=L2 at*
   generalize c.ag.map aI=L3 at*
   simp (maxSteps:=9^9) (disch:=omega) [-List.map_replicate,-List.map_set,-List.getD_eq_getElem?_getD,-getElem?_pos,-getElem?_neg,om,JH,w1,w2,w3,hEl,az,ae]
  | some i0=>
   rw [hx] at w3;have key:cO c root lang=0:=by unfold cO;rw [if_neg hk0,if_neg hh0,hx];rfl
   rw [key,if_pos rfl];have hok:=b9 hk;have hsl:=hok.FI;have w4:=fun i (hi:i<c.ag.length)=>qZ c hc (some i) (fun j h=>by cases h;exact hi);have w5:=fun i=>Ek none 1 (chain c.ag i) (fun _=>rfl);have w6:=fun i hi hin=>LG c hc hk root i hi hin lang;have hcl:=fun i=>od (l:=c.ag) i;have hnl:=yw Lib.itoa c.ag root;have hib: ∀i,sv (chain c.ag i) root=pz c.ag root i:=fun i=>ug _ _;unfold K9;generalize DY Lib.itoa (au c.aa lang) c=sr at*
   simp only [gh,az] at w3 w4;clear hok hc;unfold aO bU at*
   generalize ao c.aa=L1 at*
   generalize c.aq.map bF=L2 at*
   generalize c.ag.map aI=L3 at*
   generalize c.ag=S at*
   generalize hRES:(fG Lib.itoa S root 0 S).map sr=RES at*
   simp (maxSteps:=9^9) (disch:=omega) [-List.map_replicate,-List.map_set,-List.getD_eq_getElem?_getD,-getElem?_pos,-getElem?_neg,om,JH,w1,w2,w3,hEl,ae]
   refine Wp.aA (fun (a:Nat×List pO)=>S.length-a.1) (fun a=> [none,some (.int .i64 root),some (.str lang),some (.ptr 0 0),some (.ptr 1 0),none,some (.ptr 3 0),some (.int .i64 a.1),none,none,none,none,none,none,none,none,none,none,none,none,none,none,none,none,none]) (fun a=> [.var 26 [.ah c.ln c.lz L1,.ah c.bn c.bz L2,.ah c.sn c.sz L3],.var 41 [.int .i64 0,.str [],.ay 2 0],.sl ⟨false,some 46,none⟩ 3 [],.var 41 [.int .i64 root,.str lang,.ay 4 a.2.length],.sl ⟨false,some 46,none⟩ 3 (a.2.map cp)])
    (fun a=>RES=a.2++(fG Lib.itoa S root a.1 (S.drop a.1)).map sr∧a.1≤S.length∧a.2.length≤a.1) ?_ (0, []) ⟨by simpa using hRES.symm,by simp,by simp⟩ (by simp) (by simp)
   rintro ⟨i,out⟩ ⟨hi,hil,hol⟩;simp only at hi hil hol⊢;rw [hi];clear hi hRES;by_cases h1:i<S.length
   ·rw [List.drop_eq_getElem_cons h1];simp only [fG];have x4:=w4 i h1;have x5:=w5 i (by have:=hcl i;omega) root;rw [hib] at x5;have x6:=w6 i h1;clear w4 w5 w6 hcl hnl hib;cases hin:pz S root i with
    | false=>
     rw [hin] at x5;rw [if_neg (by simp)];generalize chain S i=CC at*
     simp (maxSteps:=9^9) (disch:=omega) [-List.map_replicate,-List.map_set,-List.getD_eq_getElem?_getD,-getElem?_pos,-getElem?_neg,om,h1,hEl,x4,x5,ae];exact ⟨i+1,out,⟨rfl,by omega,by omega⟩,by omega,by simp,rfl,rfl⟩
    | true=>
     rw [hin] at x5;rw [if_pos rfl,List.map_cons];have x7:=x6 hin;unfold cp at x7;generalize hq:sr (S[i],kX Lib.itoa S root i)=q at*
     have hom:(out.map cp).length=out.length:=by simp
     generalize chain S i=CC at*
     clear x6;simp (maxSteps:=9^9) (disch:=omega) [-List.map_replicate,-List.map_set,-List.getD_eq_getElem?_getD,-getElem?_pos,-getElem?_neg,om,h1,hEl,x4,x5,x7,ae,hom];exact ⟨i+1,out++ [q],⟨by simp,by omega,by simp;omega⟩,by omega,by simp,by simp,by simp [cp]⟩
   ·rw [List.drop_eq_nil_of_le (by omega)];simp (maxSteps:=9^9) (disch:=omega) [-List.map_replicate,-List.map_set,-List.getD_eq_getElem?_getD,-getElem?_pos,-getElem?_neg,om,h1,hEl,fG,ae]
end Go.Proofs.YtfnkchadeaedlaaGreatDoor
