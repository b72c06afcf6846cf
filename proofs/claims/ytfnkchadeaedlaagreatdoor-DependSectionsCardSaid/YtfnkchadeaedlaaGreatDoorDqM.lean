/-
 depend.Section: the section from its reads. depend.Section without reads.
-/
import Derived.Test.YtfnkchadeaedlaaGreatDoorDpM
import Derived.Test.YtfnkchadeaedlaaGreatDoorAdM
set_option linter.all false
namespace Go.Proofs.YtfnkchadeaedlaaGreatDoor
open Go.Am
set_option maxRecDepth 10000
set_option maxHeartbeats 8000000
theorem xp {l:List (Cell×ag)} {i:Nat} {a b:Cell×ag} (h1:l[i]?=some a) (h2:l[i+1]?=some b):sD (l.drop i)=(eI a.1 b.1&&sD (l.drop (i+1))):=by obtain ⟨k1,rfl⟩:=List.getElem?_eq_some_iff.1 h1;obtain ⟨k2,rfl⟩:=List.getElem?_eq_some_iff.1 h2;rw [List.drop_eq_getElem_cons k1,List.drop_eq_getElem_cons k2];rfl
def jT:AV:= .agg [.int .i64 0,.str [],.ak (some true) 0 []]
def cZ (q:Int×Option qn):AV:= .aI [match q.2 with | some s=>cD s | none=>jT,.int .i64 q.1]
theorem Bb (l:List (Cell×ag)):sD (l.drop (l.length-1))=true:=by
 cases h:l.drop (l.length-1) with
 | nil=>rfl
 | cons a r=>have:=congrArg List.length h;simp at this;have:r= []:=List.length_eq_zero_iff.mp (by omega);rw [this];rfl
theorem rf {s t:ag} (h:al s=some t):t.length≤s.length:=Jf h
theorem Fh {p:ag} {n:Nat} {t:ag} (h:fb al p=some (n,t)):t.length≤p.length∧n≤64:=by
 unfold fb at h;split at h
 ·rename_i num rest hc;obtain ⟨e,_⟩:=dU hc;split at h
  ·rename_i n' t' hp hu;split at h
   ·cases h
   ·rename_i hn;cases h;have:=rf hu;refine ⟨?_,by omega⟩;rw [e];simp;omega
  ·cases h
 ·cases h
theorem u5 {N:Nat}: ∀(r:List ag) (last:Nat) (fs:List (Nat×ag)),last≤64→iS al last r=some fs→(∀p∈r,p.length≤N)→fs.length+last≤64∧ ∀f∈fs,f.2.length≤N∧f.1≤64
 | [],last,fs,hl,h,_=>by cases h;exact ⟨by simpa using hl,by simp⟩
 | p::r,last,fs,hl,h,hN=>by
  unfold iS at h;cases hf:fb al p with
  | none=>rw [hf] at h;cases h
  | some q=>
   obtain ⟨n,t⟩:=q;rw [hf] at h;simp only at h;obtain ⟨h1,h2⟩:=Fh hf;split at h
   ·cases h
   ·rename_i hn;rw [Option.map_eq_some_iff] at h;obtain ⟨gs,hg,rfl⟩:=h;obtain ⟨k1,k2⟩:=u5 r n gs h2 hg (fun x hx=>hN x (by simp [hx]));refine ⟨by simp only [List.length_cons];omega,fun f hf=> ?_⟩;rcases List.mem_cons.1 hf with rfl | hf
    ·have:=hN p (by simp);exact ⟨by simp only;omega,h2⟩
    ·exact k2 f hf
theorem oS {N:Nat} {v:ag} {x:MG} (h:jP al v=some x) (hN: ∀p∈splitB 10 v.dropLast,p.length≤N):x.title.length≤N∧x.mark.length≤N∧x.facts.length≤64∧ ∀f∈x.facts,f.2.length≤N∧f.1≤64:=by
 unfold jP uT at h;split at h
 ·unfold fT at h;split at h
  ·rename_i a b r hP;simp only [Option.some.injEq] at hP;rw [hP] at hN;split at h
   ·rename_i n t m f h1 h2 h3;cases h;have ha:=hN a (by simp);have hb:=hN b (by simp);obtain ⟨k1,k2⟩:=u5 r 0 f (by omega) h3 (fun p hp=>hN p (by simp [hp]));refine ⟨?_,?_,by simpa using k1,k2⟩
    ·unfold qg at h1;split at h1
     ·rename_i w ra hc;obtain ⟨e,_⟩:=dU hc;split at h1
      ·rename_i t' hu;split at h1
       ·cases h1
       ·cases h1;have:=rf hu;have hal:a.length=w.length+1+ra.length:=by rw [e];simp;omega
        simp only;omega
      ·cases h1
     ·cases h1
    ·unfold sd at h2;split at h2
     ·rename_i w rb hc;obtain ⟨e,_⟩:=dU hc;split at h2
      ·have:=rf h2;have hbl:b.length=w.length+1+rb.length:=by rw [e];simp;omega
       simp only;omega
      ·cases h2
     ·cases h2
   ·cases h
  ·cases h
 ·cases h
theorem sq {look:Int→Option ag} (h: ∀u,((look u).getD []).length≤1000): ∀s:ag,(aB look s).1.length≤1000*s.length:=by
 suffices H: ∀(n:Nat) (s:ag),s.length≤n→(aB look s).1.length≤1000*s.length from fun s=>H _ s (Nat.le_refl _)
 intro n
 induction n with
 | zero=>intro s hs;have:s= []:=List.length_eq_zero_iff.mp (by omega);subst this;simp [jz]
 | succ n ih=>
  intro s hs;cases s with
  | nil=>simp [jz]
  | cons c r=>
   by_cases hp:(an (c::r)).2=0
   ·rw [lr look _ _ hp];have:=ih r (by simp at hs;omega);simp only [List.length_cons];omega
   ·obtain ⟨q1,q2,q3,q4,q5⟩:=(dh (c::r)).resolve_left (fun h=>hp (by rw [h]));rw [jR look _ hp];have h1:=h (an (c::r)).1;have h2:=ih ((c::r).drop (an (c::r)).2.toNat) (by simp at hs⊢;omega);simp only [List.length_drop] at h2;cases hl:look (an (c::r)).1 with
    | none=>simp only;omega
    | some a=>rw [hl] at h1;simp only [Option.getD_some] at h1;simp only [List.length_append];omega
theorem xq {n:Nat} (h1:1≤n) (h2:n≤4):fk (n:Int)=cG n:=by
 have:n=1∨n=2∨n=3∨n=4:=by omega
 rcases this with rfl | rfl | rfl | rfl <;> rfl
theorem u6 (unit:Int) (l:List (Cell×ag)) (hne:l≠ []) (hl:l.length<1000000)
  (hv1:((au l (1,unit)).getD []).length≤10000) (hv2:((au l (2,unit)).getD []).length<900000) (hv3: ∀p∈splitB 10 ((au l (2,unit)).getD []).dropLast,p.length≤10000) (hv4: ∀k u,k=3∨k=4→((au l (k,u)).getD []).length≤1000):
  aq cfg 19 [.int .i64 unit,.ak none 3 (aC l)] []=some (cZ (iU al unit l), []):=by
 refine ab Ri KA ?_;have hE: ∀k (h:k<l.length),(aC l)[k]?=some (.agg [.int .i64 l[k].1.1,.int .i64 l[k].1.2,.str l[k].2]):=fun k h=>get_map _ _ h;have hEl:(aC l).length=l.length:=by simp [aC]
 have hone:=Bb l;have hinc:=DU (l:=l);have hget:=fun (B:List ad) (lk:Bool) (hB:ad.at B 2= .var 102 [.ak none 3 (aC l),.bool lk]) (hk:2<B.length) (hs:shut B.length B=true) (hi:iT (l.map Prod.fst)) (kd u:Int)=>CT hB hk hs (fun _=>rfl) hl hi kd u;have hexp:=fun (B:List ad) (hk:2<B.length) (hs:shut B.length B=true) (hi:iT (l.map Prod.fst)) (t:ag) (ht:t.length≤10000) (lk:Bool)=>Hh (B:=B) (k:=2) (nl:=none) (z:=3) (l:=l) hk hs (fun _=>rfl) hl hi (fun u=>hv4 4 u (.inr rfl)) t ht lk;simp only [Ba] at hexp;obtain ⟨RES,hRES⟩: ∃RES,RES=iU al unit l:=⟨_,rfl⟩;rw [←hRES];unfold iU at hRES;generalize hE0:aC l=E at*
 simp (maxSteps:=9^9) (disch:=omega) [-List.map_replicate,-List.map_set,-List.getD_eq_getElem?_getD,-getElem?_pos,-getElem?_neg,om,Hi,hEl];refine Wp.aX (fun (a:Nat×Option AV)=>l.length-a.1) (fun a=> [some (.int .i64 unit),some (.ak none 3 E),some (.ptr 0 0),none,none,none,none,none,none,none,none,none,none,none,some (.int .i64 l.length),some (.int .i64 a.1),none,a.2,none,none,none,none,none,none,none,none,none,none,none,none,none,none,none,none,none,none,none,none,none,none,none,none,none,none,none,none,none,none,none,none,none,none,none]) (fun _=> [.var 46 [.int .i64 0,.str [],.az 1 0],.sl ⟨false,some 75,none⟩ 3 []]) (fun a=>a.1≤l.length∧sD l=sD (l.drop (a.1-1))) ?_ (0,none) ⟨by simp,by simp⟩ (by simp) (by simp);rintro ⟨i,o⟩ ⟨hil,hadj⟩;simp only at hil hadj⊢;by_cases h1:i<l.length
 ·have hg:=hE i h1;by_cases h0:i=0
  ·subst h0;clear hget hexp hone hinc;simp (maxSteps:=9^9) (disch:=omega) [-List.map_replicate,-List.map_set,-List.getD_eq_getElem?_getD,-getElem?_pos,-getElem?_neg,om,h1,hg];exact ⟨1,⟨by omega,by simpa using hadj⟩,by omega,by simp⟩
  ·have hg2:=hE (i-1) (by omega);obtain ⟨r1,hr1⟩: ∃r,r=l[i-1]:=⟨_,rfl⟩;obtain ⟨r2,hr2⟩: ∃r,r=l[i]:=⟨_,rfl⟩;rw [←hr1] at hg2;rw [←hr2] at hg;have hi3:i-1+1=i:=by omega
   have hs:=xp (l:=l) (i:=i-1) (a:=r1) (b:=r2) (by rw [hr1];exact List.getElem?_eq_getElem (by omega)) (by rw [hi3,hr2];exact List.getElem?_eq_getElem h1);rw [hi3] at hs;have hc:=DX r1.1 r2.1;have hc2:=gT r1.1 r2.1;have hi1:((i:Int)-1).toNat=i-1:=by omega
   have hi2:(0:Int)<(i:Int):=by omega
   unfold kF at hc;clear hget hexp hone hinc hE hr1 hr2;generalize iW r1.1 r2.1=cc at*
   generalize eI r1.1 r2.1=bb at*
   by_cases hcc:cc<0
   ·have hbb:bb=true:=hc2.1 hcc;subst hbb;rw [hs,Bool.true_and] at hadj;have hcc2: ¬ 0≤cc:=by omega
    simp (maxSteps:=9^9) (disch:=omega) [-List.map_replicate,-List.map_set,-List.getD_eq_getElem?_getD,-getElem?_pos,-getElem?_neg,om,h1,hg,hg2,hc,hi1,hi2,hcc,hcc2];exact ⟨i+1,⟨by omega,by simpa using hadj⟩,by omega,by simp⟩
   ·have hbb:bb=false:=by
     cases bb with
     | false=>rfl
     | true=>exact absurd (hc2.2 rfl) hcc
    subst hbb;rw [hs,Bool.false_and] at hadj;have hcc2:0≤cc:=by omega
    rw [hadj,if_neg (by simp)] at hRES;subst hRES;simp (maxSteps:=9^9) (disch:=omega) [-List.map_replicate,-List.map_set,-List.getD_eq_getElem?_getD,-getElem?_pos,-getElem?_neg,om,h1,hg,hg2,hc,hi1,hi2,hcc,hcc2,cZ,jT,af]
 ·obtain rfl:i=l.length:=by omega
  rw [hone] at hadj;rw [hadj,if_pos rfl] at hRES;have hinc2:=hinc hadj;clear hone hinc hE;have hplE:aj E=true:=by rw [←hE0];exact bM l
  clear hE0 hadj hl hne;obtain ⟨B0,hB0⟩: ∃B0:Bool→List ad,B0=fun lk=> [.var 46 [.int .i64 0,.str [],.az 1 0],.sl ⟨false,some 75,none⟩ 3 [],.var 102 [.ak none 3 E,.bool lk]]:=⟨_,rfl⟩;have g1:=hget (B0 false) false (by rw [hB0];rfl) (by rw [hB0];simp) (by rw [hB0];simp [shut,av,AV.under]) hinc2 1 unit;have g2:=hget (B0 (au l (1,unit)).isNone) (au l (1,unit)).isNone (by rw [hB0];rfl) (by rw [hB0];simp) (by rw [hB0];simp [shut,av,AV.under]) hinc2 2 unit;rw [hB0] at g1 g2;simp only [List.set_cons_succ,List.set_cons_zero,Bool.false_or] at g1 g2;unfold I7 at hRES;have hN1:(au l (1,unit)).getD []≠ []→(au l (1,unit)).isNone=false:=fun h=>by cases hq:au l (1,unit) with | none=>rw [hq] at h;exact absurd rfl h | some x=>rfl
  have hN2:(au l (2,unit)).getD []≠ []→(au l (2,unit)).isNone=false:=fun h=>by cases hq:au l (2,unit) with | none=>rw [hq] at h;exact absurd rfl h | some x=>rfl
  generalize (au l (1,unit)).getD []=num at*
  generalize (au l (2,unit)).getD []=txt at*
  generalize (au l (1,unit)).isNone=b1 at*
  generalize (au l (2,unit)).isNone=b2 at*
  by_cases hem:num= []∨txt= []
  ·rw [if_pos hem] at hRES;subst hRES;clear hN1 hN2 hget;rcases hem with rfl | rfl
   ·simp (maxSteps:=9^9) (disch:=omega) [-List.map_replicate,-List.map_set,-List.getD_eq_getElem?_getD,-getElem?_pos,-getElem?_neg,om,g1,g2,cZ,jT,af]
   ·by_cases hn:num= []
    ·subst hn;simp (maxSteps:=9^9) (disch:=omega) [-List.map_replicate,-List.map_set,-List.getD_eq_getElem?_getD,-getElem?_pos,-getElem?_neg,om,g1,g2,cZ,jT,af]
    ·simp (maxSteps:=9^9) (disch:=omega) [-List.map_replicate,-List.map_set,-List.getD_eq_getElem?_getD,-getElem?_pos,-getElem?_neg,om,g1,g2,cZ,jT,af,hn]
  rw [if_neg hem] at hRES;have hn1:num≠ []:=fun h=>hem (.inl h);have hn2:txt≠ []:=fun h=>hem (.inr h);have e1:=hN1 hn1;have e2:=hN2 hn2;subst e1 e2;clear hN1 hN2 hem;obtain ⟨lev,mark,title,facts,ok,k1,k2,k3⟩:=Fg txt hv2 (fun p hp=>by have:=hv3 p hp;omega);cases ok with
  | false=>have k2':jP al txt=none:=k2;rw [k2'] at hRES;simp only at hRES;subst hRES;clear hget;simp (maxSteps:=9^9) (disch:=omega) [-List.map_replicate,-List.map_set,-List.getD_eq_getElem?_getD,-getElem?_pos,-getElem?_neg,om,g1,g2,cZ,jT,af,hn1,hn2,k1]
  | true=>
   have k2':jP al txt=some ⟨lev,title,mark,facts⟩:=k2;rw [k2'] at hRES;simp only at hRES;obtain ⟨k4,k5⟩:=k3 rfl;obtain ⟨tl,ml,fl,hfb⟩:=oS (N:=10000) k2' hv3;simp only at tl ml fl hfb;have w1:=DV (lev:Int) (by omega) (by omega);rw [xq k4 k5] at w1;have w2:=rm num (by omega);have hdl:aN num≤num.length:=List.count_le_length;have hxl: ∀t:ag,t.length≤10000→(aB (fun u=>au l (4,u)) t).1.length≤10000000:=fun t ht=>by have:=sq (look:=fun u=>au l (4,u)) (fun u=>hv4 4 u (.inr rfl)) t;omega
   rw [AX] at hRES;have hF: ∀i (h:i<facts.length),(facts.map yu)[i]?=some (.agg [.int .i64 facts[i].1,.str [],.str facts[i].2]):=fun i h=>get_map _ _ h;have hFl:(facts.map yu).length=facts.length:=by simp
   generalize facts.map yu=FA at*
   generalize cG lev=tg at*
   generalize hFF:(dK l (aN num+1) facts).2=FF at*
   have hw0:IntKind.i64.wrap ((aN num:Int)+1)=aN num+1:=wrap_i64 (by omega) (by omega);by_cases hmk:mark= []
   ·subst hmk;have hmk:([]:ag)= []:=rfl;generalize hNF:(⟨aN num,tg,num++ [32]++title⟩::(mC (aN num+1) []++(dK l (aN num+1) facts).1):List Nd)=NF at*
    have hR2:RES=if FF=true then (7,none) else (0,some ⟨unit,num,NF⟩):=by rw [hRES,←hNF];cases FF <;> rfl
    clear hRES;subst hR2;clear k2 k2' k3 hv2 hv3;simp (maxSteps:=9^9) (disch:=omega) [-List.map_replicate,-List.map_set,-List.getD_eq_getElem?_getD,-getElem?_pos,-getElem?_neg,om,Hi,g1,g2,k1,w1,w2,af,hn1,hn2,hFl]
    refine Wp.aX (fun (a:Nat×List Nd×Fl)=>facts.length-a.1) (fun a=> [none,none,some (.ptr 0 0),none,none,some (.ptr 2 0),none,none,none,none,some (.int .i64 (aN num)),some (.ptr 5 0),none,none,none,none,none,none,none,none,none,none,none,none,none,none,none,none,none,none,none,none,none,none,none,none,none,none,none,some (.ak none 3 FA),some (.int .i64 facts.length),some (.int .i64 a.1),none,none,none,none,none,none,none,none,none,none,none]) (fun a=> [.var 46 [.int .i64 0,.str [],.az 1 0],.sl ⟨false,some 75,none⟩ 3 [],.var 102 [.ak none 3 E,.bool a.2.2.b],.var 73 [.int .i64 0,.int .i64 0,.int .i64 lev,.str [],.str title,.ak none 3 FA],.sl ⟨false,some 75,none⟩ 3 (a.2.1.map ff),.var 46 [.int .i64 unit,.str num,.az 4 a.2.1.length]])
     (fun a=>NF=a.2.1++(dK l (aN num+1) (facts.drop a.1)).1∧OO FF (a.2.2.b || (dK l (aN num+1) (facts.drop a.1)).2)∧a.1≤facts.length∧a.2.1.length≤a.1+2) ?_ (0, [⟨aN num,tg,num++ [32]++title⟩],⟨false⟩) ⟨by simp [←hNF,mC,hmk],by simp [OO,←hFF],by simp,by simp⟩ (by simp) (by simp [ff])
    rintro ⟨i,N,⟨lk⟩⟩ ⟨hi,hi2,hil,hNl⟩;simp only at hi hi2 hil hNl⊢;have hi3:FF=(lk || (dK l (aN num+1) (facts.drop i)).2):=hi2;clear hi2 hFF hNF;by_cases q1:i<facts.length
    ·have hg:=hF i q1;obtain ⟨ftl,fel⟩:=hfb _ (List.getElem_mem q1);rw [List.drop_eq_getElem_cons q1] at hi hi3;simp only [dK] at hi hi3;have x1:=hget [.var 46 [.int .i64 0,.str [],.az 1 0],.sl ⟨false,some 75,none⟩ 3 [],.var 102 [.ak none 3 E,.bool lk],.var 73 [.int .i64 0,.int .i64 0,.int .i64 lev,.str [],.str title,.ak none 3 FA],.sl ⟨false,some 75,none⟩ 3 (N.map ff),.var 46 [.int .i64 unit,.str num,.az 4 N.length],.var 79 [.int .i64 facts[i].1,.str [],.str facts[i].2]] lk rfl (by simp) (by simp [shut,av,AV.under,cg]) hinc2 3 facts[i].1;have x2:=hexp [.var 46 [.int .i64 0,.str [],.az 1 0],.sl ⟨false,some 75,none⟩ 3 [],.var 102 [.ak none 3 E,.bool lk],.var 73 [.int .i64 0,.int .i64 0,.int .i64 lev,.str [],.str title,.ak none 3 FA],.sl ⟨false,some 75,none⟩ 3 (N.map ff),.var 46 [.int .i64 unit,.str num,.az 4 N.length],.var 79 [.int .i64 facts[i].1,.str [],.str facts[i].2],.dead,.dead] (by simp) (by simp [shut,av,AV.under,cg]) hinc2 facts[i].2 ftl (lk || (au l (3,(facts[i].1:Int))).isNone);simp only [List.set_cons_succ,List.set_cons_zero] at x1 x2;have hb1:=hv4 3 facts[i].1 (.inl rfl);have hb2:=hxl facts[i].2 ftl;have hNm:(N.map ff).length=N.length:=by simp
     have hw:IntKind.i64.wrap ((aN num:Int)+1)=aN num+1:=wrap_i64 (by omega) (by omega);clear hget hexp hF hfb hxl;generalize facts[i]=f at*
     generalize (au l (3,(f.1:Int))).getD []=lab at*
     generalize (au l (3,(f.1:Int))).isNone=b3 at*
     generalize (aB (fun u=>au l (4,u)) f.2).1=xt at*
     generalize (aB (fun u=>au l (4,u)) f.2).2=b4 at*
     simp (maxSteps:=9^9) (disch:=omega) [-List.map_replicate,-List.map_set,-List.getD_eq_getElem?_getD,-getElem?_pos,-getElem?_neg,om,q1,hg,af,x1,x2,hw,hNm,hFl];exact ⟨i+1,N++ [⟨(aN num:Int)+1, [112],lab++58::32::xt⟩],⟨lk || b3 || b4⟩,⟨by rw [hi];simp,by show FF=_;rw [hi3];simp [Bool.or_assoc],by omega,by simp;omega⟩,by omega,by simp,rfl,by simp [ff],by simp⟩
    ·rw [List.drop_eq_nil_of_le (by omega)] at hi hi3;simp only [dK,List.append_nil,Bool.or_false] at hi hi3;subst hi hi3;clear hget hexp hF hfb hxl;cases FF with
     | true=>simp (maxSteps:=9^9) (disch:=omega) [-List.map_replicate,-List.map_set,-List.getD_eq_getElem?_getD,-getElem?_pos,-getElem?_neg,om,q1,af,hFl,cZ,jT]
     | false=>simp (maxSteps:=9^9) (disch:=omega) [-List.map_replicate,-List.map_set,-List.getD_eq_getElem?_getD,-getElem?_pos,-getElem?_neg,om,q1,af,hFl,cZ,cD]
   ·
    generalize hNF:(⟨aN num,tg,num++ [32]++title⟩::(mC (aN num+1) mark++(dK l (aN num+1) facts).1):List Nd)=NF at*
    have hR2:RES=if FF=true then (7,none) else (0,some ⟨unit,num,NF⟩):=by rw [hRES,←hNF];cases FF <;> rfl
    clear hRES;subst hR2;clear k2 k2' k3 hv2 hv3;simp (maxSteps:=9^9) (disch:=omega) [-List.map_replicate,-List.map_set,-List.getD_eq_getElem?_getD,-getElem?_pos,-getElem?_neg,om,Hi,g1,g2,k1,w1,w2,af,hn1,hn2,hFl,hmk,hw0]
    refine Wp.aX (fun (a:Nat×List Nd×Fl)=>facts.length-a.1) (fun a=> [none,none,some (.ptr 0 0),none,none,some (.ptr 2 0),none,none,none,none,some (.int .i64 (aN num)),some (.ptr 5 0),none,none,none,none,none,none,none,none,none,none,none,none,none,none,none,none,none,none,none,none,none,none,none,none,none,none,none,some (.ak none 3 FA),some (.int .i64 facts.length),some (.int .i64 a.1),none,none,none,none,none,none,none,none,none,none,none]) (fun a=> [.var 46 [.int .i64 0,.str [],.az 1 0],.sl ⟨false,some 75,none⟩ 3 [],.var 102 [.ak none 3 E,.bool a.2.2.b],.var 73 [.int .i64 0,.int .i64 0,.int .i64 lev,.str mark,.str title,.ak none 3 FA],.sl ⟨false,some 75,none⟩ 3 (a.2.1.map ff),.var 46 [.int .i64 unit,.str num,.az 4 a.2.1.length],.sl ⟨false,some 75,none⟩ 3 [.agg [.int .i64 ((aN num:Int)+1),.str [109,97,114,107],.str mark]],.dead])
     (fun a=>NF=a.2.1++(dK l (aN num+1) (facts.drop a.1)).1∧OO FF (a.2.2.b || (dK l (aN num+1) (facts.drop a.1)).2)∧a.1≤facts.length∧a.2.1.length≤a.1+2) ?_ (0, [⟨aN num,tg,num++ [32]++title⟩,⟨(aN num:Int)+1, [109,97,114,107],mark⟩],⟨false⟩) ⟨by simp [←hNF,mC,hmk],by simp [OO,←hFF],by simp,by simp⟩ (by simp) (by simp [ff])
    rintro ⟨i,N,⟨lk⟩⟩ ⟨hi,hi2,hil,hNl⟩;simp only at hi hi2 hil hNl⊢;have hi3:FF=(lk || (dK l (aN num+1) (facts.drop i)).2):=hi2;clear hi2 hFF hNF;by_cases q1:i<facts.length
    ·have hg:=hF i q1;obtain ⟨ftl,fel⟩:=hfb _ (List.getElem_mem q1);rw [List.drop_eq_getElem_cons q1] at hi hi3;simp only [dK] at hi hi3;have x1:=hget [.var 46 [.int .i64 0,.str [],.az 1 0],.sl ⟨false,some 75,none⟩ 3 [],.var 102 [.ak none 3 E,.bool lk],.var 73 [.int .i64 0,.int .i64 0,.int .i64 lev,.str mark,.str title,.ak none 3 FA],.sl ⟨false,some 75,none⟩ 3 (N.map ff),.var 46 [.int .i64 unit,.str num,.az 4 N.length],.sl ⟨false,some 75,none⟩ 3 [.agg [.int .i64 ((aN num:Int)+1),.str [109,97,114,107],.str mark]],.dead,.var 79 [.int .i64 facts[i].1,.str [],.str facts[i].2]] lk rfl (by simp) (by simp [shut,av,AV.under,cg]) hinc2 3 facts[i].1;have x2:=hexp [.var 46 [.int .i64 0,.str [],.az 1 0],.sl ⟨false,some 75,none⟩ 3 [],.var 102 [.ak none 3 E,.bool lk],.var 73 [.int .i64 0,.int .i64 0,.int .i64 lev,.str mark,.str title,.ak none 3 FA],.sl ⟨false,some 75,none⟩ 3 (N.map ff),.var 46 [.int .i64 unit,.str num,.az 4 N.length],.sl ⟨false,some 75,none⟩ 3 [.agg [.int .i64 ((aN num:Int)+1),.str [109,97,114,107],.str mark]],.dead,.var 79 [.int .i64 facts[i].1,.str [],.str facts[i].2],.dead,.dead] (by simp) (by simp [shut,av,AV.under,cg]) hinc2 facts[i].2 ftl (lk || (au l (3,(facts[i].1:Int))).isNone);simp only [List.set_cons_succ,List.set_cons_zero] at x1 x2;have hb1:=hv4 3 facts[i].1 (.inl rfl);have hb2:=hxl facts[i].2 ftl;have hNm:(N.map ff).length=N.length:=by simp
     have hw:IntKind.i64.wrap ((aN num:Int)+1)=aN num+1:=wrap_i64 (by omega) (by omega);clear hget hexp hF hfb hxl;generalize facts[i]=f at*
     generalize (au l (3,(f.1:Int))).getD []=lab at*
     generalize (au l (3,(f.1:Int))).isNone=b3 at*
     generalize (aB (fun u=>au l (4,u)) f.2).1=xt at*
     generalize (aB (fun u=>au l (4,u)) f.2).2=b4 at*
     simp (maxSteps:=9^9) (disch:=omega) [-List.map_replicate,-List.map_set,-List.getD_eq_getElem?_getD,-getElem?_pos,-getElem?_neg,om,q1,hg,af,x1,x2,hw,hNm,hFl];exact ⟨i+1,N++ [⟨(aN num:Int)+1, [112],lab++58::32::xt⟩],⟨lk || b3 || b4⟩,⟨by rw [hi];simp,by show FF=_;rw [hi3];simp [Bool.or_assoc],by omega,by simp;omega⟩,by omega,by simp,rfl,by simp [ff],by simp⟩
    ·rw [List.drop_eq_nil_of_le (by omega)] at hi hi3;simp only [dK,List.append_nil,Bool.or_false] at hi hi3;subst hi hi3;clear hget hexp hF hfb hxl;cases FF with
     | true=>simp (maxSteps:=9^9) (disch:=omega) [-List.map_replicate,-List.map_set,-List.getD_eq_getElem?_getD,-getElem?_pos,-getElem?_neg,om,q1,af,hFl,cZ,jT]
     | false=>simp (maxSteps:=9^9) (disch:=omega) [-List.map_replicate,-List.map_set,-List.getD_eq_getElem?_getD,-getElem?_pos,-getElem?_neg,om,q1,af,hFl,cZ,cD]
theorem Jg (lk:Bool) (kd u:Int):aq cfg 63 [.ptr 2 0,.int .i64 kd,.int .i64 u] [.var 46 [.int .i64 0,.str [],.az 1 0],.sl ⟨false,some 75,none⟩ 3 [],.var 102 [.az 3 0,.bool lk],.sl ⟨false,some 57,none⟩ 3 []]=some (.str [], [.var 46 [.int .i64 0,.str [],.az 1 0],.sl ⟨false,some 75,none⟩ 3 [],.var 102 [.az 3 0,.bool true],.sl ⟨false,some 57,none⟩ 3 []]):=by
 refine ab Rf Kz ?_;obtain ⟨i,h1,h2⟩:=xn none 3 [] (fun _=>rfl) (by simp) trivial (kd,u);simp only [aC,List.map_nil,au,List.find?_nil,Option.map_none,Option.isSome_none] at h1;unfold kF at h1;simp only at h1;simp (maxSteps:=9^9) (disch:=omega) [-List.map_replicate,-List.map_set,-List.getD_eq_getElem?_getD,-getElem?_pos,-getElem?_neg,om,Je,h1,af]
 trace_state
theorem Fi (unit:Int) (nl:Option Bool) (z:Nat):aq cfg 19 [.int .i64 unit,.ak nl z []] []=some (cZ (7,none), []):=by
 refine ab Ri KA ?_;have hget:=fun (lk:Bool) (kd:Int)=>CT (nl:=nl) (z:=z) (l:= []) (B:= [.var 46 [.int .i64 0,.str [],.az 1 0],.sl ⟨false,some 75,none⟩ 3 [],.var 102 [.ak nl z [],.bool lk]]) (k:=2) (lk:=lk) rfl (by simp) (by simp [shut,av,AV.under,cg]) (fun h=>absurd rfl h) (by simp) trivial kd unit;have hget0:=fun (lk:Bool) (kd:Int)=>Jg lk kd unit;simp only [aC,List.map_nil,au,List.find?_nil,Option.map_none,Option.getD_none,Option.isNone_none,Bool.or_true,List.set_cons_succ,List.set_cons_zero] at hget;simp (maxSteps:=9^9) (disch:=omega) [-List.map_replicate,-List.map_set,-List.getD_eq_getElem?_getD,-getElem?_pos,-getElem?_neg,om,Hi];refine Wp.aX (fun (i:Nat)=>0) (fun i=> [some (.int .i64 unit),some (.ak nl z []),some (.ptr 0 0),none,none,none,none,none,none,none,none,none,none,none,some (.int .i64 0),some (.int .i64 0),none,none,none,none,none,none,none,none,none,none,none,none,none,none,none,none,none,none,none,none,none,none,none,none,none,none,none,none,none,none,none,none,none,none,none,none,none]) (fun _=> [.var 46 [.int .i64 0,.str [],.az 1 0],.sl ⟨false,some 75,none⟩ 3 []]) (fun i=>True) ?_ 0 trivial (by simp) (by simp);rintro i _;rcases nl with _ | (_ | _)
 ·simp (maxSteps:=9^9) (disch:=omega) [-List.map_replicate,-List.map_set,-List.getD_eq_getElem?_getD,-getElem?_pos,-getElem?_neg,om,hget,hget0,cZ,jT,af]
 ·simp (maxSteps:=9^9) (disch:=omega) [-List.map_replicate,-List.map_set,-List.getD_eq_getElem?_getD,-getElem?_pos,-getElem?_neg,om,hget,hget0,cZ,jT,af]
 ·simp (maxSteps:=9^9) (disch:=omega) [-List.map_replicate,-List.map_set,-List.getD_eq_getElem?_getD,-getElem?_pos,-getElem?_neg,om,hget,hget0,cZ,jT,af]
  trace_state
end Go.Proofs.YtfnkchadeaedlaaGreatDoor
