/-
 depend.Section: the section from its reads. depend.Section without reads.
-/
import Derived.Test.YtfnkchadeaedlaaGreatDoorDpM
import Derived.Test.YtfnkchadeaedlaaGreatDoorAdM
set_option linter.all false
namespace Go.Proofs.YtfnkchadeaedlaaGreatDoor
open Go.Am
set_option maxRecDepth 10000
set_option maxHeartbeats 8000000
theorem GQ {l:List (Cell×af)} {i:Nat} {a b:Cell×af} (h1:l[i]?=some a) (h2:l[i+1]?=some b):zB (l.drop i)=(dQ a.1 b.1&&zB (l.drop (i+1))):=by obtain ⟨k1,rfl⟩:=List.getElem?_eq_some_iff.1 h1;obtain ⟨k2,rfl⟩:=List.getElem?_eq_some_iff.1 h2;rw [List.drop_eq_getElem_cons k1,List.drop_eq_getElem_cons k2];rfl
def zF:AV:= .agg [.int .i64 0,.str [],.ah (some true) 0 []]
def j0 (q:Int×Option pO):AV:= .aT [match q.2 with | some s=>cp s | none=>zF,.int .i64 q.1]
theorem I6 (l:List (Cell×af)):zB (l.drop (l.length-1))=true:=by
 cases h:l.drop (l.length-1) with
 | nil=>rfl
 | cons a r=>have:=congrArg List.length h;simp at this;have:r= []:=List.length_eq_zero_iff.mp (by omega);rw [this];rfl
theorem sk {s t:af} (h:aZ s=some t):t.length≤s.length:=Lj h
theorem GR {p:af} {n:Nat} {t:af} (h:mb aZ p=some (n,t)):t.length≤p.length∧n≤64:=by
 unfold mb at h;split at h
 ·rename_i num rest hc;obtain ⟨e,_⟩:=fI hc;split at h
  ·rename_i n' t' hp hu;split at h
   ·cases h
   ·rename_i hn;cases h;have:=sk hu;refine ⟨?_,by omega⟩;rw [e];simp;omega
  ·cases h
 ·cases h
theorem wc {N:Nat}: ∀(r:List af) (last:Nat) (fs:List (Nat×af)),last≤64→lU aZ last r=some fs→(∀p∈r,p.length≤N)→fs.length+last≤64∧ ∀f∈fs,f.2.length≤N∧f.1≤64
 | [],last,fs,hl,h,_=>by cases h;exact ⟨by simpa using hl,by simp⟩
 | p::r,last,fs,hl,h,hN=>by
  unfold lU at h;cases hf:mb aZ p with
  | none=>rw [hf] at h;cases h
  | some q=>
   obtain ⟨n,t⟩:=q;rw [hf] at h;simp only at h;obtain ⟨h1,h2⟩:=GR hf;split at h
   ·cases h
   ·rename_i hn;rw [Option.map_eq_some_iff] at h;obtain ⟨gs,hg,rfl⟩:=h;obtain ⟨k1,k2⟩:=wc r n gs h2 hg (fun x hx=>hN x (by simp [hx]));refine ⟨by simp only [List.length_cons];omega,fun f hf=> ?_⟩;rcases List.mem_cons.1 hf with rfl | hf
    ·have:=hN p (by simp);exact ⟨by simp only;omega,h2⟩
    ·exact k2 f hf
theorem we {N:Nat} {v:af} {x:VX} (h:pB aZ v=some x) (hN: ∀p∈splitB 10 v.dropLast,p.length≤N):x.title.length≤N∧x.mark.length≤N∧x.facts.length≤64∧ ∀f∈x.facts,f.2.length≤N∧f.1≤64:=by
 unfold pB DZ at h;split at h
 ·unfold pA at h;split at h
  ·rename_i a b r hP;simp only [Option.some.injEq] at hP;rw [hP] at hN;split at h
   ·rename_i n t m f h1 h2 h3;cases h;have ha:=hN a (by simp);have hb:=hN b (by simp);obtain ⟨k1,k2⟩:=wc r 0 f (by omega) h3 (fun p hp=>hN p (by simp [hp]));refine ⟨?_,?_,by simpa using k1,k2⟩
    ·unfold yb at h1;split at h1
     ·rename_i w ra hc;obtain ⟨e,_⟩:=fI hc;split at h1
      ·rename_i t' hu;split at h1
       ·cases h1
       ·cases h1;have:=sk hu;have hal:a.length=w.length+1+ra.length:=by rw [e];simp;omega
        simp only;omega
      ·cases h1
     ·cases h1
    ·unfold yc at h2;split at h2
     ·rename_i w rb hc;obtain ⟨e,_⟩:=fI hc;split at h2
      ·have:=sk h2;have hbl:b.length=w.length+1+rb.length:=by rw [e];simp;omega
       simp only;omega
      ·cases h2
     ·cases h2
   ·cases h
  ·cases h
 ·cases h
theorem Cj {look:Int→Option af} (h: ∀u,((look u).getD []).length≤1000): ∀s:af,(aH look s).1.length≤1000*s.length:=by
 suffices H: ∀(n:Nat) (s:af),s.length≤n→(aH look s).1.length≤1000*s.length from fun s=>H _ s (Nat.le_refl _)
 intro n
 induction n with
 | zero=>intro s hs;have:s= []:=List.length_eq_zero_iff.mp (by omega);subst this;simp [jW]
 | succ n ih=>
  intro s hs;cases s with
  | nil=>simp [jW]
  | cons c r=>
   by_cases hp:(ak (c::r)).2=0
   ·rw [lV look _ _ hp];have:=ih r (by simp at hs;omega);simp only [List.length_cons];omega
   ·obtain ⟨q1,q2,q3,q4,q5⟩:=(di (c::r)).resolve_left (fun h=>hp (by rw [h]));rw [kq look _ hp];have h1:=h (ak (c::r)).1;have h2:=ih ((c::r).drop (ak (c::r)).2.toNat) (by simp at hs⊢;omega);simp only [List.length_drop] at h2;cases hl:look (ak (c::r)).1 with
    | none=>simp only;omega
    | some a=>rw [hl] at h1;simp only [Option.getD_some] at h1;simp only [List.length_append];omega
theorem GS {n:Nat} (h1:1≤n) (h2:n≤4):dD (n:Int)=sc n:=by
 have:n=1∨n=2∨n=3∨n=4:=by omega
 rcases this with rfl | rfl | rfl | rfl <;> rfl
theorem wg (unit:Int) (l:List (Cell×af)) (hne:l≠ []) (hl:l.length<1000000)
  (hv1:((aJ l (1,unit)).getD []).length≤10000) (hv2:((aJ l (2,unit)).getD []).length<900000) (hv3: ∀p∈splitB 10 ((aJ l (2,unit)).getD []).dropLast,p.length≤10000) (hv4: ∀k u,k=3∨k=4→((aJ l (k,u)).getD []).length≤1000):
  ar cfg 19 [.int .i64 unit,.ah none 3 (aF l)] []=some (j0 (mc aZ unit l), []):=by
 refine ab V9 Tz ?_;have hE: ∀k (h:k<l.length),(aF l)[k]?=some (.agg [.int .i64 l[k].1.1,.int .i64 l[k].1.2,.str l[k].2]):=fun k h=>get_map _ _ h;have hEl:(aF l).length=l.length:=by simp [aF]
 have hone:=I6 l;have hinc:=Fj (l:=l);have hget:=fun (B:List ad) (lk:Bool) (hB:ad.at B 2= .var 102 [.ah none 3 (aF l),.bool lk]) (hk:2<B.length) (hs:shut B.length B=true) (hi:jr (l.map Prod.fst)) (kd u:Int)=>I2 hB hk hs (fun _=>rfl) hl hi kd u;have hexp:=fun (B:List ad) (hk:2<B.length) (hs:shut B.length B=true) (hi:jr (l.map Prod.fst)) (t:af) (ht:t.length≤10000) (lk:Bool)=>I5 (B:=B) (k:=2) (nl:=none) (z:=3) (l:=l) hk hs (fun _=>rfl) hl hi (fun u=>hv4 4 u (.inr rfl)) t ht lk;simp only [Ci] at hexp;obtain ⟨RES,hRES⟩: ∃RES,RES=mc aZ unit l:=⟨_,rfl⟩;rw [←hRES];unfold mc at hRES;generalize hE0:aF l=E at*
 simp (maxSteps:=9^9) (disch:=omega) [-List.map_replicate,-List.map_set,-List.getD_eq_getElem?_getD,-getElem?_pos,-getElem?_neg,om,Lk,hEl];refine Wp.aA (fun (a:Nat×Option AV)=>l.length-a.1) (fun a=> [some (.int .i64 unit),some (.ah none 3 E),some (.ptr 0 0),none,none,none,none,none,none,none,none,none,none,none,some (.int .i64 l.length),some (.int .i64 a.1),none,a.2,none,none,none,none,none,none,none,none,none,none,none,none,none,none,none,none,none,none,none,none,none,none,none,none,none,none,none,none,none,none,none,none,none,none,none]) (fun _=> [.var 46 [.int .i64 0,.str [],.ay 1 0],.sl ⟨false,some 75,none⟩ 3 []]) (fun a=>a.1≤l.length∧zB l=zB (l.drop (a.1-1))) ?_ (0,none) ⟨by simp,by simp⟩ (by simp) (by simp);rintro ⟨i,o⟩ ⟨hil,hadj⟩;simp only at hil hadj⊢;by_cases h1:i<l.length
 ·have hg:=hE i h1;by_cases h0:i=0
  ·subst h0;clear hget hexp hone hinc;simp (maxSteps:=9^9) (disch:=omega) [-List.map_replicate,-List.map_set,-List.getD_eq_getElem?_getD,-getElem?_pos,-getElem?_neg,om,h1,hg];exact ⟨1,⟨by omega,by simpa using hadj⟩,by omega,by simp⟩
  ·have hg2:=hE (i-1) (by omega);obtain ⟨r1,hr1⟩: ∃r,r=l[i-1]:=⟨_,rfl⟩;obtain ⟨r2,hr2⟩: ∃r,r=l[i]:=⟨_,rfl⟩;rw [←hr1] at hg2;rw [←hr2] at hg;have hi3:i-1+1=i:=by omega
   have hs:=GQ (l:=l) (i:=i-1) (a:=r1) (b:=r2) (by rw [hr1];exact List.getElem?_eq_getElem (by omega)) (by rw [hi3,hr2];exact List.getElem?_eq_getElem h1);rw [hi3] at hs;have hc:=Fp r1.1 r2.1;have hc2:=iD r1.1 r2.1;have hi1:((i:Int)-1).toNat=i-1:=by omega
   have hi2:(0:Int)<(i:Int):=by omega
   unfold iC at hc;clear hget hexp hone hinc hE hr1 hr2;generalize js r1.1 r2.1=cc at*
   generalize dQ r1.1 r2.1=bb at*
   by_cases hcc:cc<0
   ·have hbb:bb=true:=hc2.1 hcc;subst hbb;rw [hs,Bool.true_and] at hadj;have hcc2: ¬ 0≤cc:=by omega
    simp (maxSteps:=9^9) (disch:=omega) [-List.map_replicate,-List.map_set,-List.getD_eq_getElem?_getD,-getElem?_pos,-getElem?_neg,om,h1,hg,hg2,hc,hi1,hi2,hcc,hcc2];exact ⟨i+1,⟨by omega,by simpa using hadj⟩,by omega,by simp⟩
   ·have hbb:bb=false:=by
     cases bb with
     | false=>rfl
     | true=>exact absurd (hc2.2 rfl) hcc
    subst hbb;rw [hs,Bool.false_and] at hadj;have hcc2:0≤cc:=by omega
    rw [hadj,if_neg (by simp)] at hRES;subst hRES;simp (maxSteps:=9^9) (disch:=omega) [-List.map_replicate,-List.map_set,-List.getD_eq_getElem?_getD,-getElem?_pos,-getElem?_neg,om,h1,hg,hg2,hc,hi1,hi2,hcc,hcc2,j0,zF,ae]
 ·obtain rfl:i=l.length:=by omega
  rw [hone] at hadj;rw [hadj,if_pos rfl] at hRES;have hinc2:=hinc hadj;clear hone hinc hE;have hplE:al E=true:=by rw [←hE0];exact cT l
  clear hE0 hadj hl hne;obtain ⟨B0,hB0⟩: ∃B0:Bool→List ad,B0=fun lk=> [.var 46 [.int .i64 0,.str [],.ay 1 0],.sl ⟨false,some 75,none⟩ 3 [],.var 102 [.ah none 3 E,.bool lk]]:=⟨_,rfl⟩;have g1:=hget (B0 false) false (by rw [hB0];rfl) (by rw [hB0];simp) (by rw [hB0];simp [shut,aw,AV.under]) hinc2 1 unit;have g2:=hget (B0 (aJ l (1,unit)).isNone) (aJ l (1,unit)).isNone (by rw [hB0];rfl) (by rw [hB0];simp) (by rw [hB0];simp [shut,aw,AV.under]) hinc2 2 unit;rw [hB0] at g1 g2;simp only [List.set_cons_succ,List.set_cons_zero,Bool.false_or] at g1 g2;unfold OU at hRES;have hN1:(aJ l (1,unit)).getD []≠ []→(aJ l (1,unit)).isNone=false:=fun h=>by cases hq:aJ l (1,unit) with | none=>rw [hq] at h;exact absurd rfl h | some x=>rfl
  have hN2:(aJ l (2,unit)).getD []≠ []→(aJ l (2,unit)).isNone=false:=fun h=>by cases hq:aJ l (2,unit) with | none=>rw [hq] at h;exact absurd rfl h | some x=>rfl
  generalize (aJ l (1,unit)).getD []=num at*
  generalize (aJ l (2,unit)).getD []=txt at*
  generalize (aJ l (1,unit)).isNone=b1 at*
  generalize (aJ l (2,unit)).isNone=b2 at*
  by_cases hem:num= []∨txt= []
  ·rw [if_pos hem] at hRES;subst hRES;clear hN1 hN2 hget;rcases hem with rfl | rfl
   ·simp (maxSteps:=9^9) (disch:=omega) [-List.map_replicate,-List.map_set,-List.getD_eq_getElem?_getD,-getElem?_pos,-getElem?_neg,om,g1,g2,j0,zF,ae]
   ·by_cases hn:num= []
    ·subst hn;simp (maxSteps:=9^9) (disch:=omega) [-List.map_replicate,-List.map_set,-List.getD_eq_getElem?_getD,-getElem?_pos,-getElem?_neg,om,g1,g2,j0,zF,ae]
    ·simp (maxSteps:=9^9) (disch:=omega) [-List.map_replicate,-List.map_set,-List.getD_eq_getElem?_getD,-getElem?_pos,-getElem?_neg,om,g1,g2,j0,zF,ae,hn]
  rw [if_neg hem] at hRES;have hn1:num≠ []:=fun h=>hem (.inl h);have hn2:txt≠ []:=fun h=>hem (.inr h);have e1:=hN1 hn1;have e2:=hN2 hn2;subst e1 e2;clear hN1 hN2 hem;obtain ⟨lev,mark,title,facts,ok,k1,k2,k3⟩:=GP txt hv2 (fun p hp=>by have:=hv3 p hp;omega);cases ok with
  | false=>have k2':pB aZ txt=none:=k2;rw [k2'] at hRES;simp only at hRES;subst hRES;clear hget;simp (maxSteps:=9^9) (disch:=omega) [-List.map_replicate,-List.map_set,-List.getD_eq_getElem?_getD,-getElem?_pos,-getElem?_neg,om,g1,g2,j0,zF,ae,hn1,hn2,k1]
  | true=>
   have k2':pB aZ txt=some ⟨lev,title,mark,facts⟩:=k2;rw [k2'] at hRES;simp only at hRES;obtain ⟨k4,k5⟩:=k3 rfl;obtain ⟨tl,ml,fl,hfb⟩:=we (N:=10000) k2' hv3;simp only at tl ml fl hfb;have w1:=Fm (lev:Int) (by omega) (by omega);rw [GS k4 k5] at w1;have w2:=sD num (by omega);have hdl:ba num≤num.length:=List.count_le_length;have hxl: ∀t:af,t.length≤10000→(aH (fun u=>aJ l (4,u)) t).1.length≤10000000:=fun t ht=>by have:=Cj (look:=fun u=>aJ l (4,u)) (fun u=>hv4 4 u (.inr rfl)) t;omega
   rw [B8] at hRES;have hF: ∀i (h:i<facts.length),(facts.map I3)[i]?=some (.agg [.int .i64 facts[i].1,.str [],.str facts[i].2]):=fun i h=>get_map _ _ h;have hFl:(facts.map I3).length=facts.length:=by simp
   generalize facts.map I3=FA at*
   generalize sc lev=tg at*
   generalize hFF:(eh l (ba num+1) facts).2=FF at*
   have hw0:IntKind.i64.wrap ((ba num:Int)+1)=ba num+1:=wrap_i64 (by omega) (by omega);by_cases hmk:mark= []
   ·subst hmk;have hmk:([]:af)= []:=rfl;generalize hNF:(⟨ba num,tg,num++ [32]++title⟩::(yf (ba num+1) []++(eh l (ba num+1) facts).1):List Nd)=NF at*
    have hR2:RES=if FF=true then (7,none) else (0,some ⟨unit,num,NF⟩):=by rw [hRES,←hNF];cases FF <;> rfl
    clear hRES;subst hR2;clear k2 k2' k3 hv2 hv3;simp (maxSteps:=9^9) (disch:=omega) [-List.map_replicate,-List.map_set,-List.getD_eq_getElem?_getD,-getElem?_pos,-getElem?_neg,om,Lk,g1,g2,k1,w1,w2,ae,hn1,hn2,hFl]
    refine Wp.aA (fun (a:Nat×List Nd×Fl)=>facts.length-a.1) (fun a=> [none,none,some (.ptr 0 0),none,none,some (.ptr 2 0),none,none,none,none,some (.int .i64 (ba num)),some (.ptr 5 0),none,none,none,none,none,none,none,none,none,none,none,none,none,none,none,none,none,none,none,none,none,none,none,none,none,none,none,some (.ah none 3 FA),some (.int .i64 facts.length),some (.int .i64 a.1),none,none,none,none,none,none,none,none,none,none,none]) (fun a=> [.var 46 [.int .i64 0,.str [],.ay 1 0],.sl ⟨false,some 75,none⟩ 3 [],.var 102 [.ah none 3 E,.bool a.2.2.b],.var 73 [.int .i64 0,.int .i64 0,.int .i64 lev,.str [],.str title,.ah none 3 FA],.sl ⟨false,some 75,none⟩ 3 (a.2.1.map ie),.var 46 [.int .i64 unit,.str num,.ay 4 a.2.1.length]])
     (fun a=>NF=a.2.1++(eh l (ba num+1) (facts.drop a.1)).1∧Q2 FF (a.2.2.b || (eh l (ba num+1) (facts.drop a.1)).2)∧a.1≤facts.length∧a.2.1.length≤a.1+2) ?_ (0, [⟨ba num,tg,num++ [32]++title⟩],⟨false⟩) ⟨by simp [←hNF,yf,hmk],by simp [Q2,←hFF],by simp,by simp⟩ (by simp) (by simp [ie])
    rintro ⟨i,N,⟨lk⟩⟩ ⟨hi,hi2,hil,hNl⟩;simp only at hi hi2 hil hNl⊢;have hi3:FF=(lk || (eh l (ba num+1) (facts.drop i)).2):=hi2;clear hi2 hFF hNF;by_cases q1:i<facts.length
    ·have hg:=hF i q1;obtain ⟨ftl,fel⟩:=hfb _ (List.getElem_mem q1);rw [List.drop_eq_getElem_cons q1] at hi hi3;simp only [eh] at hi hi3;have x1:=hget [.var 46 [.int .i64 0,.str [],.ay 1 0],.sl ⟨false,some 75,none⟩ 3 [],.var 102 [.ah none 3 E,.bool lk],.var 73 [.int .i64 0,.int .i64 0,.int .i64 lev,.str [],.str title,.ah none 3 FA],.sl ⟨false,some 75,none⟩ 3 (N.map ie),.var 46 [.int .i64 unit,.str num,.ay 4 N.length],.var 79 [.int .i64 facts[i].1,.str [],.str facts[i].2]] lk rfl (by simp) (by simp [shut,aw,AV.under,cM]) hinc2 3 facts[i].1;have x2:=hexp [.var 46 [.int .i64 0,.str [],.ay 1 0],.sl ⟨false,some 75,none⟩ 3 [],.var 102 [.ah none 3 E,.bool lk],.var 73 [.int .i64 0,.int .i64 0,.int .i64 lev,.str [],.str title,.ah none 3 FA],.sl ⟨false,some 75,none⟩ 3 (N.map ie),.var 46 [.int .i64 unit,.str num,.ay 4 N.length],.var 79 [.int .i64 facts[i].1,.str [],.str facts[i].2],.dead,.dead] (by simp) (by simp [shut,aw,AV.under,cM]) hinc2 facts[i].2 ftl (lk || (aJ l (3,(facts[i].1:Int))).isNone);simp only [List.set_cons_succ,List.set_cons_zero] at x1 x2;have hb1:=hv4 3 facts[i].1 (.inl rfl);have hb2:=hxl facts[i].2 ftl;have hNm:(N.map ie).length=N.length:=by simp
     have hw:IntKind.i64.wrap ((ba num:Int)+1)=ba num+1:=wrap_i64 (by omega) (by omega);clear hget hexp hF hfb hxl;generalize facts[i]=f at*
     generalize (aJ l (3,(f.1:Int))).getD []=lab at*
     generalize (aJ l (3,(f.1:Int))).isNone=b3 at*
     generalize (aH (fun u=>aJ l (4,u)) f.2).1=xt at*
     generalize (aH (fun u=>aJ l (4,u)) f.2).2=b4 at*
     simp (maxSteps:=9^9) (disch:=omega) [-List.map_replicate,-List.map_set,-List.getD_eq_getElem?_getD,-getElem?_pos,-getElem?_neg,om,q1,hg,ae,x1,x2,hw,hNm,hFl];exact ⟨i+1,N++ [⟨(ba num:Int)+1, [112],lab++58::32::xt⟩],⟨lk || b3 || b4⟩,⟨by rw [hi];simp,by show FF=_;rw [hi3];simp [Bool.or_assoc],by omega,by simp;omega⟩,by omega,by simp,rfl,by simp [ie],by simp⟩
    ·rw [List.drop_eq_nil_of_le (by omega)] at hi hi3;simp only [eh,List.append_nil,Bool.or_false] at hi hi3;subst hi hi3;clear hget hexp hF hfb hxl;cases FF with
     | true=>simp (maxSteps:=9^9) (disch:=omega) [-List.map_replicate,-List.map_set,-List.getD_eq_getElem?_getD,-getElem?_pos,-getElem?_neg,om,q1,ae,hFl,j0,zF]
     | false=>simp (maxSteps:=9^9) (disch:=omega) [-List.map_replicate,-List.map_set,-List.getD_eq_getElem?_getD,-getElem?_pos,-getElem?_neg,om,q1,ae,hFl,j0,cp]
   ·
    generalize hNF:(⟨ba num,tg,num++ [32]++title⟩::(yf (ba num+1) mark++(eh l (ba num+1) facts).1):List Nd)=NF at*
    have hR2:RES=if FF=true then (7,none) else (0,some ⟨unit,num,NF⟩):=by rw [hRES,←hNF];cases FF <;> rfl
    clear hRES;subst hR2;clear k2 k2' k3 hv2 hv3;simp (maxSteps:=9^9) (disch:=omega) [-List.map_replicate,-List.map_set,-List.getD_eq_getElem?_getD,-getElem?_pos,-getElem?_neg,om,Lk,g1,g2,k1,w1,w2,ae,hn1,hn2,hFl,hmk,hw0]
    refine Wp.aA (fun (a:Nat×List Nd×Fl)=>facts.length-a.1) (fun a=> [none,none,some (.ptr 0 0),none,none,some (.ptr 2 0),none,none,none,none,some (.int .i64 (ba num)),some (.ptr 5 0),none,none,none,none,none,none,none,none,none,none,none,none,none,none,none,none,none,none,none,none,none,none,none,none,none,none,none,some (.ah none 3 FA),some (.int .i64 facts.length),some (.int .i64 a.1),none,none,none,none,none,none,none,none,none,none,none]) (fun a=> [.var 46 [.int .i64 0,.str [],.ay 1 0],.sl ⟨false,some 75,none⟩ 3 [],.var 102 [.ah none 3 E,.bool a.2.2.b],.var 73 [.int .i64 0,.int .i64 0,.int .i64 lev,.str mark,.str title,.ah none 3 FA],.sl ⟨false,some 75,none⟩ 3 (a.2.1.map ie),.var 46 [.int .i64 unit,.str num,.ay 4 a.2.1.length],.sl ⟨false,some 75,none⟩ 3 [.agg [.int .i64 ((ba num:Int)+1),.str [109,97,114,107],.str mark]],.dead])
     (fun a=>NF=a.2.1++(eh l (ba num+1) (facts.drop a.1)).1∧Q2 FF (a.2.2.b || (eh l (ba num+1) (facts.drop a.1)).2)∧a.1≤facts.length∧a.2.1.length≤a.1+2) ?_ (0, [⟨ba num,tg,num++ [32]++title⟩,⟨(ba num:Int)+1, [109,97,114,107],mark⟩],⟨false⟩) ⟨by simp [←hNF,yf,hmk],by simp [Q2,←hFF],by simp,by simp⟩ (by simp) (by simp [ie])
    rintro ⟨i,N,⟨lk⟩⟩ ⟨hi,hi2,hil,hNl⟩;simp only at hi hi2 hil hNl⊢;have hi3:FF=(lk || (eh l (ba num+1) (facts.drop i)).2):=hi2;clear hi2 hFF hNF;by_cases q1:i<facts.length
    ·have hg:=hF i q1;obtain ⟨ftl,fel⟩:=hfb _ (List.getElem_mem q1);rw [List.drop_eq_getElem_cons q1] at hi hi3;simp only [eh] at hi hi3;have x1:=hget [.var 46 [.int .i64 0,.str [],.ay 1 0],.sl ⟨false,some 75,none⟩ 3 [],.var 102 [.ah none 3 E,.bool lk],.var 73 [.int .i64 0,.int .i64 0,.int .i64 lev,.str mark,.str title,.ah none 3 FA],.sl ⟨false,some 75,none⟩ 3 (N.map ie),.var 46 [.int .i64 unit,.str num,.ay 4 N.length],.sl ⟨false,some 75,none⟩ 3 [.agg [.int .i64 ((ba num:Int)+1),.str [109,97,114,107],.str mark]],.dead,.var 79 [.int .i64 facts[i].1,.str [],.str facts[i].2]] lk rfl (by simp) (by simp [shut,aw,AV.under,cM]) hinc2 3 facts[i].1;have x2:=hexp [.var 46 [.int .i64 0,.str [],.ay 1 0],.sl ⟨false,some 75,none⟩ 3 [],.var 102 [.ah none 3 E,.bool lk],.var 73 [.int .i64 0,.int .i64 0,.int .i64 lev,.str mark,.str title,.ah none 3 FA],.sl ⟨false,some 75,none⟩ 3 (N.map ie),.var 46 [.int .i64 unit,.str num,.ay 4 N.length],.sl ⟨false,some 75,none⟩ 3 [.agg [.int .i64 ((ba num:Int)+1),.str [109,97,114,107],.str mark]],.dead,.var 79 [.int .i64 facts[i].1,.str [],.str facts[i].2],.dead,.dead] (by simp) (by simp [shut,aw,AV.under,cM]) hinc2 facts[i].2 ftl (lk || (aJ l (3,(facts[i].1:Int))).isNone);simp only [List.set_cons_succ,List.set_cons_zero] at x1 x2;have hb1:=hv4 3 facts[i].1 (.inl rfl);have hb2:=hxl facts[i].2 ftl;have hNm:(N.map ie).length=N.length:=by simp
     have hw:IntKind.i64.wrap ((ba num:Int)+1)=ba num+1:=wrap_i64 (by omega) (by omega);clear hget hexp hF hfb hxl;generalize facts[i]=f at*
     generalize (aJ l (3,(f.1:Int))).getD []=lab at*
     generalize (aJ l (3,(f.1:Int))).isNone=b3 at*
     generalize (aH (fun u=>aJ l (4,u)) f.2).1=xt at*
     generalize (aH (fun u=>aJ l (4,u)) f.2).2=b4 at*
     simp (maxSteps:=9^9) (disch:=omega) [-List.map_replicate,-List.map_set,-List.getD_eq_getElem?_getD,-getElem?_pos,-getElem?_neg,om,q1,hg,ae,x1,x2,hw,hNm,hFl];exact ⟨i+1,N++ [⟨(ba num:Int)+1, [112],lab++58::32::xt⟩],⟨lk || b3 || b4⟩,⟨by rw [hi];simp,by show FF=_;rw [hi3];simp [Bool.or_assoc],by omega,by simp;omega⟩,by omega,by simp,rfl,by simp [ie],by simp⟩
    ·rw [List.drop_eq_nil_of_le (by omega)] at hi hi3;simp only [eh,List.append_nil,Bool.or_false] at hi hi3;subst hi hi3;clear hget hexp hF hfb hxl;cases FF with
     | true=>simp (maxSteps:=9^9) (disch:=omega) [-List.map_replicate,-List.map_set,-List.getD_eq_getElem?_getD,-getElem?_pos,-getElem?_neg,om,q1,ae,hFl,j0,zF]
     | false=>simp (maxSteps:=9^9) (disch:=omega) [-List.map_replicate,-List.map_set,-List.getD_eq_getElem?_getD,-getElem?_pos,-getElem?_neg,om,q1,ae,hFl,j0,cp]
end Go.Proofs.YtfnkchadeaedlaaGreatDoor
