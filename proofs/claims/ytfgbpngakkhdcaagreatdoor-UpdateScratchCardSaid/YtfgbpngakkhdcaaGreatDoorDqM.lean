/- depend.Section: -/
import Derived.Test.YtfgbpngakkhdcaaGreatDoorDpsM
import Derived.Test.YtfgbpngakkhdcaaGreatDoorDpM
open Bool renaming or_assoc->adw,or_false->ab7
open List renaming append_nil->aa3,drop_eq_getElem_cons->aaB,drop_eq_nil_of_le->aaC,find?_nil->adx,getD_eq_getElem?_getD->aaE,getElem?_eq_getElem->aaF,getElem?_eq_some_iff->ab8,getElem_mem->aa8,length_cons->aaH,length_eq_zero_iff->aa9,map_nil->aaN,map_replicate->aaO,map_set->aaP,set_cons_succ->ady,set_cons_zero->adz
open Option renaming map_none->acg
set_option linter.all false
namespace Go.Proofs.YtfgbpngakkhdcaaGreatDoor
open Go.Am
set_option maxRecDepth 10000
set_option maxHeartbeats 8000000
theorem I2 {l:List (Cell×ae)} {i:Nat} {a b:Cell×ae} (h1:l[i]?=some a) (h2:l[i+1]?=some b):tQ (l.drop i)=(fY a.1 b.1&&tQ (l.drop (i+1))):=by obtain ⟨k1,rfl⟩:=ab8.1 h1;obtain ⟨k2,rfl⟩:=ab8.1 h2;rw [aaB k1,aaB k2];rfl
def vu:AV:= .agg [.int .i64 0,.str [],.ag (some true) 0 []]
def iV (q:Int×Option mm):AV:= .aL [match q.2 with | some s=>du s | none=>vu,.int .i64 q.1]
theorem Lw (l:List (Cell×ae)):tQ (l.drop (l.length-1))=true:=by
 cases h:l.drop (l.length-1) with
 | nil=>rfl
 | cons a r=>have:=congrArg List.length h;simp at this;have:r= []:=aa9.mp (by omega);rw [this];rfl
theorem tY {s t:ae} (h:unesc s=some t):t.length<=s.length:=Oo h
theorem I3 {p:ae} {n:Nat} {t:ae} (h:kL unesc p=some (n,t)):t.length<=p.length∧n<=64:=by
 unfold kL at h;split at h
 ·rename_i num rest hc;obtain ⟨e,_⟩:=gj hc;split at h
  ·rename_i n' t' hp hu;split at h
   ·cases h
   ·rename_i hn;cases h;have:=tY hu;refine ⟨?_,by omega⟩;rw [e];simp;omega
  ·cases h
 ·cases h
theorem xW {N:Nat}: ∀(r:List ae) (last:Nat) (fs:List (Nat×ae)),last<=64->j4 unesc last r=some fs->(∀p∈r,p.length<=N)->fs.length+last<=64∧ ∀f∈fs,f.2.length<=N∧f.1<=64
 | [],last,fs,hl,h,_=>by cases h;exact ⟨by simpa using hl,by simp⟩
 | p::r,last,fs,hl,h,hN=>by
  unfold j4 at h;cases hf:kL unesc p with
  | none=>rw [hf] at h;cases h
  | some q=>
   obtain ⟨n,t⟩:=q;rw [hf] at h;simp only at h;obtain ⟨h1,h2⟩:=I3 hf;split at h
   ·cases h
   ·rename_i hn;rw [Option.map_eq_some_iff] at h;obtain ⟨gs,hg,rfl⟩:=h;obtain ⟨k1,k2⟩:=xW r n gs h2 hg (fun x hx=>hN x (by simp [hx]));refine ⟨by simp only [aaH];omega,fun f hf=> ?_⟩;rcases List.mem_cons.1 hf with rfl | hf
    ·have:=hN p (by simp);exact ⟨by simp only;omega,h2⟩
    ·exact k2 f hf
theorem xX {N:Nat} {v:ae} {x:YE} (h:gK unesc v=some x) (hN: ∀p∈splitB 10 v.dropLast,p.length<=N):x.title.length<=N∧x.mark.length<=N∧x.facts.length<=64∧ ∀f∈x.facts,f.2.length<=N∧f.1<=64:=by
 unfold gK tL at h;split at h
 ·unfold oE at h;split at h
  ·rename_i a b r hP;simp only [Option.some.injEq] at hP;rw [hP] at hN;split at h
   ·rename_i n t m f h1 h2 h3;cases h;have ha:=hN a (by simp);have hb:=hN b (by simp);obtain ⟨k1,k2⟩:=xW r 0 f (by omega) h3 (fun p hp=>hN p (by simp [hp]));refine ⟨?_,?_,by simpa using k1,k2⟩
    ·unfold uX at h1;split at h1
     ·rename_i w ra hc;obtain ⟨e,_⟩:=gj hc;split at h1
      ·rename_i t' hu;split at h1
       ·cases h1
       ·cases h1;have:=tY hu;have hal:a.length=w.length+1+ra.length:=by rw [e];simp;omega
        simp only;omega
      ·cases h1
     ·cases h1
    ·unfold uY at h2;split at h2
     ·rename_i w rb hc;obtain ⟨e,_⟩:=gj hc;split at h2
      ·have:=tY h2;have hbl:b.length=w.length+1+rb.length:=by rw [e];simp;omega
       simp only;omega
      ·cases h2
     ·cases h2
   ·cases h
  ·cases h
 ·cases h
theorem Ec {look:Int->Option ae} (h: ∀u,((look u).getD []).length<=1000): ∀s:ae,(aC look s).1.length<=1000*s.length:=by
 suffices H: ∀(n:Nat) (s:ae),s.length<=n->(aC look s).1.length<=1000*s.length from fun s=>H _ s (Nat.le_refl _)
 intro n
 induction n with
 | zero=>intro s hs;have:s= []:=aa9.mp (by omega);subst this;simp [kP]
 | succ n ih=>
  intro s hs;cases s with
  | nil=>simp [kP]
  | cons c r=>
   by_cases hp:(aj (c::r)).2=0
   ·rw [mY look _ _ hp];have:=ih r (by simp at hs;omega);simp only [aaH];omega
   ·obtain ⟨q1,q2,q3,q4,q5⟩:=(dt (c::r)).resolve_left (fun h=>hp (by rw [h]));rw [lr look _ hp];have h1:=h (aj (c::r)).1;have h2:=ih ((c::r).drop (aj (c::r)).2.toNat) (by simp at hs⊢;omega);simp only [List.length_drop] at h2;cases hl:look (aj (c::r)).1 with
    | none=>simp only;omega
    | some a=>rw [hl] at h1;simp only [Option.getD_some] at h1;simp only [List.length_append];omega
theorem I4 {n:Nat} (h1:1<=n) (h2:n<=4):g8 (n:Int)=jq n:=by
 have:n=1∨n=2∨n=3∨n=4:=by omega
 rcases this with rfl | rfl | rfl | rfl <;> rfl
theorem Lx (unit:Int) (l:List (Cell×ae)) (hne:l≠ []) (hl:l.length<1000000)
  (hv1:((aw l (1,unit)).getD []).length<=10000) (hv2:((aw l (2,unit)).getD []).length<900000) (hv3: ∀p∈splitB 10 ((aw l (2,unit)).getD []).dropLast,p.length<=10000) (hv4: ∀k u,k=3∨k=4->((aw l (k,u)).getD []).length<=1000):
  aq cfg 76 [.int .i64 unit,.ag none 3 (aN l)] []=some (iV (dH unesc unit l), []):=by
 refine aa WR P1 ?_;have hE: ∀k (h:k<l.length),(aN l)[k]?=some (.agg [.int .i64 l[k].1.1,.int .i64 l[k].1.2,.str l[k].2]):=fun k h=>get_map _ _ h;have hEl:(aN l).length=l.length:=by simp [aN]
 have hone:=Lw l;have hinc:=Hl (l:=l);have hget:=fun (B:List ad) (lk:Bool) (hB:ad.at B 2= .var 166 [.ag none 3 (aN l),.bool lk]) (hk:2<B.length) (hs:shut B.length B=true) (hi:gq (l.map Prod.fst)) (kd u:Int)=>Gb hB hk hs (fun _=>rfl) hl hi kd u;have hexp:=fun (B:List ad) (hk:2<B.length) (hs:shut B.length B=true) (hi:gq (l.map Prod.fst)) (t:ae) (ht:t.length<=10000) (lk:Bool)=>Lp (B:=B) (k:=2) (nl:=none) (z:=3) (l:=l) hk hs (fun _=>rfl) hl hi (fun u=>hv4 4 u (.inr rfl)) t ht lk;simp only [D8] at hexp;obtain ⟨RES,hRES⟩: ∃RES,RES=dH unesc unit l:=⟨_,rfl⟩;rw [<-hRES];unfold dH at hRES;generalize hE0:aN l=E at*
 simp (maxSteps:=9^9) (disch:=omega) [-aaO,-aaP,-aaE,-getElem?_pos,-getElem?_neg,om,Ly,hEl];refine Wp.aP (fun (a:Nat×Option AV)=>l.length-a.1) (fun a=> [some (.int .i64 unit),some (.ag none 3 E),some (.ptr 0 0),none,none,none,none,none,none,none,none,none,none,none,some (.int .i64 l.length),some (.int .i64 a.1),none,a.2,none,none,none,none,none,none,none,none,none,none,none,none,none,none,none,none,none,none,none,none,none,none,none,none,none,none,none,none,none,none,none,none,none,none,none]) (fun _=> [.var 58 [.int .i64 0,.str [],.ax 1 0],.sl ⟨false,some 129,none⟩ 3 []]) (fun a=>a.1<=l.length∧tQ l=tQ (l.drop (a.1-1))) ?_ (0,none) ⟨by simp,by simp⟩ (by simp) (by simp);rintro ⟨i,o⟩ ⟨hil,hadj⟩;simp only at hil hadj⊢;by_cases h1:i<l.length
 ·have hg:=hE i h1;by_cases h0:i=0
  ·subst h0;clear hget hexp hone hinc;simp (maxSteps:=9^9) (disch:=omega) [-aaO,-aaP,-aaE,-getElem?_pos,-getElem?_neg,om,h1,hg];exact ⟨1,⟨by omega,by simpa using hadj⟩,by omega,by simp⟩
  ·have hg2:=hE (i-1) (by omega);obtain ⟨r1,hr1⟩: ∃r,r=l[i-1]:=⟨_,rfl⟩;obtain ⟨r2,hr2⟩: ∃r,r=l[i]:=⟨_,rfl⟩;rw [<-hr1] at hg2;rw [<-hr2] at hg;have hi3:i-1+1=i:=by omega
   have hs:=I2 (l:=l) (i:=i-1) (a:=r1) (b:=r2) (by rw [hr1];exact aaF (by omega)) (by rw [hi3,hr2];exact aaF h1);rw [hi3] at hs;have hc:=Hp r1.1 r2.1;have hc2:=fQ r1.1 r2.1;have hi1:((i:Int)-1).toNat=i-1:=by omega
   have hi2:(0:Int)<(i:Int):=by omega
   unfold nF at hc;clear hget hexp hone hinc hE hr1 hr2;generalize gr r1.1 r2.1=cc at*
   generalize fY r1.1 r2.1=bb at*
   by_cases hcc:cc<0
   ·have hbb:bb=true:=hc2.1 hcc;subst hbb;rw [hs,Bool.true_and] at hadj;have hcc2: ¬ 0<=cc:=by omega
    simp (maxSteps:=9^9) (disch:=omega) [-aaO,-aaP,-aaE,-getElem?_pos,-getElem?_neg,om,h1,hg,hg2,hc,hi1,hi2,hcc,hcc2];exact ⟨i+1,⟨by omega,by simpa using hadj⟩,by omega,by simp⟩
   ·have hbb:bb=false:=by
     cases bb with
     | false=>rfl
     | true=>exact absurd (hc2.2 rfl) hcc
    subst hbb;rw [hs,Bool.false_and] at hadj;have hcc2:0<=cc:=by omega
    rw [hadj,if_neg (by simp)] at hRES;subst hRES;simp (maxSteps:=9^9) (disch:=omega) [-aaO,-aaP,-aaE,-getElem?_pos,-getElem?_neg,om,h1,hg,hg2,hc,hi1,hi2,hcc,hcc2,iV,vu,ab]
 ·obtain rfl:i=l.length:=by omega
  rw [hone] at hadj;rw [hadj,if_pos rfl] at hRES;have hinc2:=hinc hadj;clear hone hinc hE;have hplE:ai E=true:=by rw [<-hE0];exact aO l
  clear hE0 hadj hl hne;obtain ⟨B0,hB0⟩: ∃B0:Bool->List ad,B0=fun lk=> [.var 58 [.int .i64 0,.str [],.ax 1 0],.sl ⟨false,some 129,none⟩ 3 [],.var 166 [.ag none 3 E,.bool lk]]:=⟨_,rfl⟩;have g1:=hget (B0 false) false (by rw [hB0];rfl) (by rw [hB0];simp) (by rw [hB0];simp [shut,ar,AV.under]) hinc2 1 unit;have g2:=hget (B0 (aw l (1,unit)).isNone) (aw l (1,unit)).isNone (by rw [hB0];rfl) (by rw [hB0];simp) (by rw [hB0];simp [shut,ar,AV.under]) hinc2 2 unit;rw [hB0] at g1 g2;simp only [ady,adz,Bool.false_or] at g1 g2;unfold DV at hRES;have hN1:(aw l (1,unit)).getD []≠ []->(aw l (1,unit)).isNone=false:=fun h=>by cases hq:aw l (1,unit) with | none=>rw [hq] at h;exact absurd rfl h | some x=>rfl
  have hN2:(aw l (2,unit)).getD []≠ []->(aw l (2,unit)).isNone=false:=fun h=>by cases hq:aw l (2,unit) with | none=>rw [hq] at h;exact absurd rfl h | some x=>rfl
  generalize (aw l (1,unit)).getD []=num at*
  generalize (aw l (2,unit)).getD []=txt at*
  generalize (aw l (1,unit)).isNone=b1 at*
  generalize (aw l (2,unit)).isNone=b2 at*
  by_cases hem:num= []∨txt= []
  ·rw [if_pos hem] at hRES;subst hRES;clear hN1 hN2 hget;rcases hem with rfl | rfl
   ·simp (maxSteps:=9^9) (disch:=omega) [-aaO,-aaP,-aaE,-getElem?_pos,-getElem?_neg,om,g1,g2,iV,vu,ab]
   ·by_cases hn:num= []
    ·subst hn;simp (maxSteps:=9^9) (disch:=omega) [-aaO,-aaP,-aaE,-getElem?_pos,-getElem?_neg,om,g1,g2,iV,vu,ab]
    ·simp (maxSteps:=9^9) (disch:=omega) [-aaO,-aaP,-aaE,-getElem?_pos,-getElem?_neg,om,g1,g2,iV,vu,ab,hn]
  rw [if_neg hem] at hRES;have hn1:num≠ []:=fun h=>hem (.inl h);have hn2:txt≠ []:=fun h=>hem (.inr h);have e1:=hN1 hn1;have e2:=hN2 hn2;subst e1 e2;clear hN1 hN2 hem;obtain ⟨lev,mark,title,facts,ok,k1,k2,k3⟩:=I1 txt hv2 (fun p hp=>by have:=hv3 p hp;omega);cases ok with
  | false=>have k2':gK unesc txt=none:=k2;rw [k2'] at hRES;simp only at hRES;subst hRES;clear hget;simp (maxSteps:=9^9) (disch:=omega) [-aaO,-aaP,-aaE,-getElem?_pos,-getElem?_neg,om,g1,g2,iV,vu,ab,hn1,hn2,k1]
  | true=>
   have k2':gK unesc txt=some ⟨lev,title,mark,facts⟩:=k2;rw [k2'] at hRES;simp only at hRES;obtain ⟨k4,k5⟩:=k3 rfl;obtain ⟨tl,ml,fl,hfb⟩:=xX (N:=10000) k2' hv3;simp only at tl ml fl hfb;have w1:=GL (lev:Int) (by omega) (by omega);rw [I4 k4 k5] at w1;have w2:=uo num (by omega);have hdl:cy num<=num.length:=List.count_le_length;have hxl: ∀t:ae,t.length<=10000->(aC (fun u=>aw l (4,u)) t).1.length<=10000000:=fun t ht=>by have:=Ec (look:=fun u=>aw l (4,u)) (fun u=>hv4 4 u (.inr rfl)) t;omega
   rw [DY] at hRES;have hF: ∀i (h:i<facts.length),(facts.map Lu)[i]?=some (.agg [.int .i64 facts[i].1,.str [],.str facts[i].2]):=fun i h=>get_map _ _ h;have hFl:(facts.map Lu).length=facts.length:=by simp
   generalize facts.map Lu=FA at*
   generalize jq lev=tg at*
   generalize hFF:(ez l (cy num+1) facts).2=FF at*
   have hw0:IntKind.i64.wrap ((cy num:Int)+1)=cy num+1:=wrap_i64 (by omega) (by omega);by_cases hmk:mark= []
   ·subst hmk;have hmk:([]:ae)= []:=rfl;generalize hNF:(⟨cy num,tg,num++ [32]++title⟩::(zH (cy num+1) []++(ez l (cy num+1) facts).1):List Nd)=NF at*
    have hR2:RES=if FF=true then (7,none) else (0,some ⟨unit,num,NF⟩):=by rw [hRES,<-hNF];cases FF <;> rfl
    clear hRES;subst hR2;clear k2 k2' k3 hv2 hv3;simp (maxSteps:=9^9) (disch:=omega) [-aaO,-aaP,-aaE,-getElem?_pos,-getElem?_neg,om,Ly,g1,g2,k1,w1,w2,ab,hn1,hn2,hFl]
    refine Wp.aP (fun (a:Nat×List Nd×Fl)=>facts.length-a.1) (fun a=> [none,none,some (.ptr 0 0),none,none,some (.ptr 2 0),none,none,none,none,some (.int .i64 (cy num)),some (.ptr 5 0),none,none,none,none,none,none,none,none,none,none,none,none,none,none,none,none,none,none,none,none,none,none,none,none,none,none,none,some (.ag none 3 FA),some (.int .i64 facts.length),some (.int .i64 a.1),none,none,none,none,none,none,none,none,none,none,none]) (fun a=> [.var 58 [.int .i64 0,.str [],.ax 1 0],.sl ⟨false,some 129,none⟩ 3 [],.var 166 [.ag none 3 E,.bool a.2.2.b],.var 74 [.int .i64 0,.int .i64 0,.int .i64 lev,.str [],.str title,.ag none 3 FA],.sl ⟨false,some 129,none⟩ 3 (a.2.1.map dO),.var 58 [.int .i64 unit,.str num,.ax 4 a.2.1.length]])
     (fun a=>NF=a.2.1++(ez l (cy num+1) (facts.drop a.1)).1∧Uk FF (a.2.2.b || (ez l (cy num+1) (facts.drop a.1)).2)∧a.1<=facts.length∧a.2.1.length<=a.1+2) ?_ (0, [⟨cy num,tg,num++ [32]++title⟩],⟨false⟩) ⟨by simp [<-hNF,zH,hmk],by simp [Uk,<-hFF],by simp,by simp⟩ (by simp) (by simp [dO])
    rintro ⟨i,N,⟨lk⟩⟩ ⟨hi,hi2,hil,hNl⟩;simp only at hi hi2 hil hNl⊢;have hi3:FF=(lk || (ez l (cy num+1) (facts.drop i)).2):=hi2;clear hi2 hFF hNF;by_cases q1:i<facts.length
    ·have hg:=hF i q1;obtain ⟨ftl,fel⟩:=hfb _ (aa8 q1);rw [aaB q1] at hi hi3;simp only [ez] at hi hi3;have x1:=hget [.var 58 [.int .i64 0,.str [],.ax 1 0],.sl ⟨false,some 129,none⟩ 3 [],.var 166 [.ag none 3 E,.bool lk],.var 74 [.int .i64 0,.int .i64 0,.int .i64 lev,.str [],.str title,.ag none 3 FA],.sl ⟨false,some 129,none⟩ 3 (N.map dO),.var 58 [.int .i64 unit,.str num,.ax 4 N.length],.var 76 [.int .i64 facts[i].1,.str [],.str facts[i].2]] lk rfl (by simp) (by simp [shut,ar,AV.under,cL]) hinc2 3 facts[i].1;have x2:=hexp [.var 58 [.int .i64 0,.str [],.ax 1 0],.sl ⟨false,some 129,none⟩ 3 [],.var 166 [.ag none 3 E,.bool lk],.var 74 [.int .i64 0,.int .i64 0,.int .i64 lev,.str [],.str title,.ag none 3 FA],.sl ⟨false,some 129,none⟩ 3 (N.map dO),.var 58 [.int .i64 unit,.str num,.ax 4 N.length],.var 76 [.int .i64 facts[i].1,.str [],.str facts[i].2],.dead,.dead] (by simp) (by simp [shut,ar,AV.under,cL]) hinc2 facts[i].2 ftl (lk || (aw l (3,(facts[i].1:Int))).isNone);simp only [ady,adz] at x1 x2;have hb1:=hv4 3 facts[i].1 (.inl rfl);have hb2:=hxl facts[i].2 ftl;have hNm:(N.map dO).length=N.length:=by simp
     have hw:IntKind.i64.wrap ((cy num:Int)+1)=cy num+1:=wrap_i64 (by omega) (by omega);clear hget hexp hF hfb hxl;generalize facts[i]=f at*
     generalize (aw l (3,(f.1:Int))).getD []=lab at*
     generalize (aw l (3,(f.1:Int))).isNone=b3 at*
     generalize (aC (fun u=>aw l (4,u)) f.2).1=xt at*
     generalize (aC (fun u=>aw l (4,u)) f.2).2=b4 at*
     simp (maxSteps:=9^9) (disch:=omega) [-aaO,-aaP,-aaE,-getElem?_pos,-getElem?_neg,om,q1,hg,ab,x1,x2,hw,hNm,hFl];exact ⟨i+1,N++ [⟨(cy num:Int)+1, [112],lab++58::32::xt⟩],⟨lk || b3 || b4⟩,⟨by rw [hi];simp,by show FF=_;rw [hi3];simp [adw],by omega,by simp;omega⟩,by omega,by simp,rfl,by simp [dO],by simp⟩
    ·rw [aaC (by omega)] at hi hi3;simp only [ez,aa3,ab7] at hi hi3;subst hi hi3;clear hget hexp hF hfb hxl;cases FF with
     | true=>simp (maxSteps:=9^9) (disch:=omega) [-aaO,-aaP,-aaE,-getElem?_pos,-getElem?_neg,om,q1,ab,hFl,iV,vu]
     | false=>simp (maxSteps:=9^9) (disch:=omega) [-aaO,-aaP,-aaE,-getElem?_pos,-getElem?_neg,om,q1,ab,hFl,iV,du]
   ·
    generalize hNF:(⟨cy num,tg,num++ [32]++title⟩::(zH (cy num+1) mark++(ez l (cy num+1) facts).1):List Nd)=NF at*
    have hR2:RES=if FF=true then (7,none) else (0,some ⟨unit,num,NF⟩):=by rw [hRES,<-hNF];cases FF <;> rfl
    clear hRES;subst hR2;clear k2 k2' k3 hv2 hv3;simp (maxSteps:=9^9) (disch:=omega) [-aaO,-aaP,-aaE,-getElem?_pos,-getElem?_neg,om,Ly,g1,g2,k1,w1,w2,ab,hn1,hn2,hFl,hmk,hw0]
    refine Wp.aP (fun (a:Nat×List Nd×Fl)=>facts.length-a.1) (fun a=> [none,none,some (.ptr 0 0),none,none,some (.ptr 2 0),none,none,none,none,some (.int .i64 (cy num)),some (.ptr 5 0),none,none,none,none,none,none,none,none,none,none,none,none,none,none,none,none,none,none,none,none,none,none,none,none,none,none,none,some (.ag none 3 FA),some (.int .i64 facts.length),some (.int .i64 a.1),none,none,none,none,none,none,none,none,none,none,none]) (fun a=> [.var 58 [.int .i64 0,.str [],.ax 1 0],.sl ⟨false,some 129,none⟩ 3 [],.var 166 [.ag none 3 E,.bool a.2.2.b],.var 74 [.int .i64 0,.int .i64 0,.int .i64 lev,.str mark,.str title,.ag none 3 FA],.sl ⟨false,some 129,none⟩ 3 (a.2.1.map dO),.var 58 [.int .i64 unit,.str num,.ax 4 a.2.1.length],.sl ⟨false,some 129,none⟩ 3 [.agg [.int .i64 ((cy num:Int)+1),.str [109,97,114,107],.str mark]],.dead])
     (fun a=>NF=a.2.1++(ez l (cy num+1) (facts.drop a.1)).1∧Uk FF (a.2.2.b || (ez l (cy num+1) (facts.drop a.1)).2)∧a.1<=facts.length∧a.2.1.length<=a.1+2) ?_ (0, [⟨cy num,tg,num++ [32]++title⟩,⟨(cy num:Int)+1, [109,97,114,107],mark⟩],⟨false⟩) ⟨by simp [<-hNF,zH,hmk],by simp [Uk,<-hFF],by simp,by simp⟩ (by simp) (by simp [dO])
    rintro ⟨i,N,⟨lk⟩⟩ ⟨hi,hi2,hil,hNl⟩;simp only at hi hi2 hil hNl⊢;have hi3:FF=(lk || (ez l (cy num+1) (facts.drop i)).2):=hi2;clear hi2 hFF hNF;by_cases q1:i<facts.length
    ·have hg:=hF i q1;obtain ⟨ftl,fel⟩:=hfb _ (aa8 q1);rw [aaB q1] at hi hi3;simp only [ez] at hi hi3;have x1:=hget [.var 58 [.int .i64 0,.str [],.ax 1 0],.sl ⟨false,some 129,none⟩ 3 [],.var 166 [.ag none 3 E,.bool lk],.var 74 [.int .i64 0,.int .i64 0,.int .i64 lev,.str mark,.str title,.ag none 3 FA],.sl ⟨false,some 129,none⟩ 3 (N.map dO),.var 58 [.int .i64 unit,.str num,.ax 4 N.length],.sl ⟨false,some 129,none⟩ 3 [.agg [.int .i64 ((cy num:Int)+1),.str [109,97,114,107],.str mark]],.dead,.var 76 [.int .i64 facts[i].1,.str [],.str facts[i].2]] lk rfl (by simp) (by simp [shut,ar,AV.under,cL]) hinc2 3 facts[i].1;have x2:=hexp [.var 58 [.int .i64 0,.str [],.ax 1 0],.sl ⟨false,some 129,none⟩ 3 [],.var 166 [.ag none 3 E,.bool lk],.var 74 [.int .i64 0,.int .i64 0,.int .i64 lev,.str mark,.str title,.ag none 3 FA],.sl ⟨false,some 129,none⟩ 3 (N.map dO),.var 58 [.int .i64 unit,.str num,.ax 4 N.length],.sl ⟨false,some 129,none⟩ 3 [.agg [.int .i64 ((cy num:Int)+1),.str [109,97,114,107],.str mark]],.dead,.var 76 [.int .i64 facts[i].1,.str [],.str facts[i].2],.dead,.dead] (by simp) (by simp [shut,ar,AV.under,cL]) hinc2 facts[i].2 ftl (lk || (aw l (3,(facts[i].1:Int))).isNone);simp only [ady,adz] at x1 x2;have hb1:=hv4 3 facts[i].1 (.inl rfl);have hb2:=hxl facts[i].2 ftl;have hNm:(N.map dO).length=N.length:=by simp
     have hw:IntKind.i64.wrap ((cy num:Int)+1)=cy num+1:=wrap_i64 (by omega) (by omega);clear hget hexp hF hfb hxl;generalize facts[i]=f at*
     generalize (aw l (3,(f.1:Int))).getD []=lab at*
     generalize (aw l (3,(f.1:Int))).isNone=b3 at*
     generalize (aC (fun u=>aw l (4,u)) f.2).1=xt at*
     generalize (aC (fun u=>aw l (4,u)) f.2).2=b4 at*
     simp (maxSteps:=9^9) (disch:=omega) [-aaO,-aaP,-aaE,-getElem?_pos,-getElem?_neg,om,q1,hg,ab,x1,x2,hw,hNm,hFl];exact ⟨i+1,N++ [⟨(cy num:Int)+1, [112],lab++58::32::xt⟩],⟨lk || b3 || b4⟩,⟨by rw [hi];simp,by show FF=_;rw [hi3];simp [adw],by omega,by simp;omega⟩,by omega,by simp,rfl,by simp [dO],by simp⟩
    ·rw [aaC (by omega)] at hi hi3;simp only [ez,aa3,ab7] at hi hi3;subst hi hi3;clear hget hexp hF hfb hxl;cases FF with
     | true=>simp (maxSteps:=9^9) (disch:=omega) [-aaO,-aaP,-aaE,-getElem?_pos,-getElem?_neg,om,q1,ab,hFl,iV,vu]
     | false=>simp (maxSteps:=9^9) (disch:=omega) [-aaO,-aaP,-aaE,-getElem?_pos,-getElem?_neg,om,q1,ab,hFl,iV,du]
theorem Oq (lk:Bool) (kd u:Int):aq cfg 132 [.ptr 2 0,.int .i64 kd,.int .i64 u] [.var 58 [.int .i64 0,.str [],.ax 1 0],.sl ⟨false,some 129,none⟩ 3 [],.var 166 [.ax 3 0,.bool lk],.sl ⟨false,some 99,none⟩ 3 []]=some (.str [], [.var 58 [.int .i64 0,.str [],.ax 1 0],.sl ⟨false,some 129,none⟩ 3 [],.var 166 [.ax 3 0,.bool true],.sl ⟨false,some 99,none⟩ 3 []]):=by
 refine aa PT Lo ?_;obtain ⟨i,h1,h2⟩:=zQ none 3 [] (fun _=>rfl) (by simp) trivial (kd,u);simp only [aN,aaN,aw,adx,acg,Option.isSome_none] at h1;unfold nF at h1;simp only at h1;simp (maxSteps:=9^9) (disch:=omega) [-aaO,-aaP,-aaE,-getElem?_pos,-getElem?_neg,om,Hq,h1,ab]
 trace_state
theorem I5 (unit:Int) (nl:Option Bool) (z:Nat):aq cfg 76 [.int .i64 unit,.ag nl z []] []=some (iV (7,none), []):=by
 refine aa WR P1 ?_;have hget:=fun (lk:Bool) (kd:Int)=>Gb (nl:=nl) (z:=z) (l:= []) (B:= [.var 58 [.int .i64 0,.str [],.ax 1 0],.sl ⟨false,some 129,none⟩ 3 [],.var 166 [.ag nl z [],.bool lk]]) (k:=2) (lk:=lk) rfl (by simp) (by simp [shut,ar,AV.under,cL]) (fun h=>absurd rfl h) (by simp) trivial kd unit;have hget0:=fun (lk:Bool) (kd:Int)=>Oq lk kd unit;simp only [aN,aaN,aw,adx,acg,Option.getD_none,Option.isNone_none,Bool.or_true,ady,adz] at hget;simp (maxSteps:=9^9) (disch:=omega) [-aaO,-aaP,-aaE,-getElem?_pos,-getElem?_neg,om,Ly];refine Wp.aP (fun (i:Nat)=>0) (fun i=> [some (.int .i64 unit),some (.ag nl z []),some (.ptr 0 0),none,none,none,none,none,none,none,none,none,none,none,some (.int .i64 0),some (.int .i64 0),none,none,none,none,none,none,none,none,none,none,none,none,none,none,none,none,none,none,none,none,none,none,none,none,none,none,none,none,none,none,none,none,none,none,none,none,none]) (fun _=> [.var 58 [.int .i64 0,.str [],.ax 1 0],.sl ⟨false,some 129,none⟩ 3 []]) (fun i=>True) ?_ 0 trivial (by simp) (by simp);rintro i _;rcases nl with _ | (_ | _)
 ·simp (maxSteps:=9^9) (disch:=omega) [-aaO,-aaP,-aaE,-getElem?_pos,-getElem?_neg,om,hget,hget0,iV,vu,ab]
 ·simp (maxSteps:=9^9) (disch:=omega) [-aaO,-aaP,-aaE,-getElem?_pos,-getElem?_neg,om,hget,hget0,iV,vu,ab]
 ·simp (maxSteps:=9^9) (disch:=omega) [-aaO,-aaP,-aaE,-getElem?_pos,-getElem?_neg,om,hget,hget0,iV,vu,ab]
  trace_state
end Go.Proofs.YtfgbpngakkhdcaaGreatDoor
