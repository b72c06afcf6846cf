/-
 The reference of layer 51: Before, add, find, lines, word. The reference of layer 51: sheet, Value. The reference of layer 51: add, Reads. The reference's Reads. The reference of layer 51: a text with the citations of reads; the sheet with a text. The reference of layer 51: the section from reads.
-/
import Derived.Test.YtfnkchadeaedlaaGreatDoorDpM
import Derived.Test.YtfnkchadeaedlaaGreatDoorAdM
import Derived.Test.YtfnkchadeaedlaaGreatDoorEscM
import Derived.Test.YtfnkchadeaedlaaGreatDoorRfM
import Derived.Test.YtfnkchadeaedlaaGreatDoorDqM
set_option linter.all false
namespace Go.Proofs.YtfnkchadeaedlaaGreatDoor
open Go.Am
set_option maxRecDepth 10000
set_option maxHeartbeats 4000000
theorem Fo (a b:Cell):aq cfg 71 [kF a,kF b] []=some (.bool (eI a b), []):=by
 refine ab TQ RQ ?_;obtain ⟨a1,a2⟩:=a;obtain ⟨b1,b2⟩:=b;unfold eI kF;simp only;rcases Int.lt_trichotomy a1 b1 with h | h | h
 ·simp (maxSteps:=9^9) (disch:=omega) [-List.map_replicate,-List.map_set,-List.getD_eq_getElem?_getD,-getElem?_pos,-getElem?_neg,om,Ju,h]
 ·subst h;simp (maxSteps:=9^9) (disch:=omega) [-List.map_replicate,-List.map_set,-List.getD_eq_getElem?_getD,-getElem?_pos,-getElem?_neg,om,Ju]
 ·have h1: ¬ a1<b1:=by omega
  have h2: ¬ a1=b1:=by omega
  have h3:(a1==b1)=false:=by simpa using h2
  simp (maxSteps:=9^9) (disch:=omega) [-List.map_replicate,-List.map_set,-List.getD_eq_getElem?_getD,-getElem?_pos,-getElem?_neg,om,Ju,h1,h2,h3]
theorem qm (nl:Option Bool) (z:Nat) (l:List (Cell×ag)) (hz:l≠ []→z=3) (hl:l.length<1000000) (x:Cell):aq cfg 72 [.ak nl z (aC l),kF x] []=some (.aI [.str ((au l x).getD []),.bool (au l x).isSome], []):=by
 refine ab TR RR ?_;have hE: ∀k (h:k<l.length),(aC l)[k]?=some (.agg [.int .i64 l[k].1.1,.int .i64 l[k].1.2,.str l[k].2]):=fun k h=>get_map _ _ h;have hEl:(aC l).length=l.length:=by simp [aC]
 generalize aC l=E at*
 unfold kF;obtain ⟨x1,x2⟩:=x;simp only;simp (maxSteps:=9^9) (disch:=omega) [-List.map_replicate,-List.map_set,-List.getD_eq_getElem?_getD,-getElem?_pos,-getElem?_neg,om,RS];refine Wp.aX (fun (i:Nat)=>l.length-i) (fun i=> [some (.ak nl z E),none,some (.ptr 0 0),none,none,some (.int .i64 i),none,none]) (fun _=> [.var 28 [.int .i64 x1,.int .i64 x2]]) (fun i=>au l (x1,x2)=au (l.drop i) (x1,x2)∧i≤l.length) ?_ 0 ⟨by simp,by omega⟩ (by simp) rfl;rintro i ⟨hi,hil⟩;rw [hi];clear hi;by_cases h1:i<l.length
 ·have hg:=hE i h1;obtain rfl:=hz (ne_of_lt h1);rw [List.drop_eq_getElem_cons h1];generalize l[i]=r at*
  clear hE;obtain ⟨⟨r1,r2⟩,t⟩:=r;simp only at hg;by_cases e:((r1,r2):Cell)=(x1,x2)
  ·have e1:r1=x1:=congrArg Prod.fst e;have e2:r2=x2:=congrArg Prod.snd e;have hq:=nM (x:=((r1,r2),t)) (r:=l.drop (i+1)) (c:=(x1,x2)) e;rw [hq];simp (maxSteps:=9^9) (disch:=omega) [-List.map_replicate,-List.map_set,-List.getD_eq_getElem?_getD,-getElem?_pos,-getElem?_neg,om,h1,hg,hEl,e1,e2]
  ·have hq:=jS (x:=((r1,r2),t)) (r:=l.drop (i+1)) (c:=(x1,x2)) e
   have e3:(r1==x1&&r2==x2)=false:=by rw [Bool.eq_false_iff];intro h;simp at h;exact e (Prod.ext h.1 h.2)
   have e4: ¬ (r1=x1∧r2=x2):=fun h=>e (Prod.ext h.1 h.2);rw [hq];simp (maxSteps:=9^9) (disch:=omega) [-List.map_replicate,-List.map_set,-List.getD_eq_getElem?_getD,-getElem?_pos,-getElem?_neg,om,h1,hg,hEl,e3,e4];exact ⟨i+1,⟨rfl,by omega⟩,by omega,by simp⟩
 ·rw [List.drop_eq_nil_of_le (by omega)];simp (maxSteps:=9^9) (disch:=omega) [-List.map_replicate,-List.map_set,-List.getD_eq_getElem?_getD,-getElem?_pos,-getElem?_neg,om,h1,hEl,au]
theorem Bm: ∀(s cur:ag) (x:UInt8),x≠10→bC cur (x::s)=bC (cur++ [x]) s:=fun s cur x h=>by simp [bC,h]
theorem HA (s:ag) (hs:s.length<1000000): ∃nl,aq cfg 129 [.str s] []=some (.aI [.ak nl 1 (aw (bC [] s).1),.bool (bC [] s).2], []):=by
 refine ⟨none,ab RT Nt ?_⟩;simp (maxSteps:=9^9) (disch:=omega) [-List.map_replicate,-List.map_set,-List.getD_eq_getElem?_getD,-getElem?_pos,-getElem?_neg,om,KG]
 refine Wp.aX (fun (a:Nat×Nat×List ag)=>s.length-a.1) (fun a=> [some (.str s),none,none,some (.az 0 a.2.2.length),some (.int .i64 a.2.1),some (.int .i64 a.1),none,none,none,none]) (fun a=> [.sl ⟨false,some 9,none⟩ 1 (aw a.2.2)])
  (fun a=>(bC [] s).1=a.2.2++(bC ((s.take a.1).drop a.2.1) (s.drop a.1)).1∧(bC [] s).2=(bC ((s.take a.1).drop a.2.1) (s.drop a.1)).2∧a.1≤s.length∧a.2.1≤a.1∧a.2.2.length≤a.1) ?_ (0,0, []) ⟨by simp,by simp,by simp,by simp,by simp⟩ (by simp) (by simp [aw])
 rintro ⟨i,from',out⟩ ⟨hi1,hi2,hil,hf,hol⟩;simp only at hi1 hi2 hil hf hol⊢;rw [hi1,hi2];clear hi1 hi2;by_cases h1:i<s.length
 ·have hg:s[i]?=some (s.getD i 0):=by simp [List.getD_eq_getElem?_getD,h1]
  have hd:s.drop i=s.getD i 0::s.drop (i+1):=by rw [List.drop_eq_getElem_cons h1];simp [List.getD_eq_getElem?_getD,h1]
  have htk:s.take (i+1)=s.take i++ [s.getD i 0]:=by rw [List.take_succ_eq_append_getElem h1];simp [List.getD_eq_getElem?_getD,h1]
  by_cases hc:s.getD i 0=10
  ·rw [hd,hc];simp only [bC,if_pos];rw [hc] at hg;have hdd:((s.take (i+1)).drop (i+1))= []:=by exact List.drop_eq_nil_of_le (by rw [List.length_take];omega)
   generalize hX:(s.take i).drop from'=X at*
   simp (maxSteps:=9^9) (disch:=omega) [-List.map_replicate,-List.map_set,-List.getD_eq_getElem?_getD,-getElem?_pos,-getElem?_neg,om,h1,hg,ah,hX,hf,af];exact ⟨i+1,i+1,out++ [X],⟨by rw [hdd];simp,by rw [hdd],by omega,by omega,by simp;omega⟩,by omega,⟨by simp,by simp,by simp⟩,by simp [aw]⟩
  ·have hc2: ¬ (((s.getD i 0).toNat:Int)=10):=fun h=>hc (UInt8.toNat_inj.mp (by show _=10;omega));have hc3:(((s.getD i 0).toNat:Int)==10)=false:=by simpa using hc2
   have hX:(s.take i).drop from'++ [s.getD i 0]=(s.take (i+1)).drop from':=by
    rw [htk,List.drop_append];have:from'-(s.take i).length=0:=by simp;omega
    rw [this];rfl
   rw [hd,Bm _ _ _ hc,hX];clear hX hd htk;generalize s.getD i 0=c at*
   simp (maxSteps:=9^9) (disch:=omega) [-List.map_replicate,-List.map_set,-List.getD_eq_getElem?_getD,-getElem?_pos,-getElem?_neg,om,h1,hg,ah,hc2,hc3];exact ⟨i+1,from',out,⟨rfl,rfl,by omega,by omega,by omega⟩,by omega,⟨rfl,rfl,by simp⟩,rfl⟩
 ·obtain rfl:i=s.length:=by omega
  rw [List.drop_eq_nil_of_le (Nat.le_refl _),List.take_length]
  have hq:(decide (s.drop from'= []))=((from':Int)==(s.length:Int)):=by rw [Bool.eq_iff_iff,beq_iff_eq,decide_eq_true_eq,List.drop_eq_nil_iff];omega
  have hq2:((from':Int)==(s.length:Int))=decide (s.length≤from'):=by rw [Bool.eq_iff_iff,beq_iff_eq,decide_eq_true_eq];omega
  simp (maxSteps:=9^9) (disch:=omega) [-List.map_replicate,-List.map_set,-List.getD_eq_getElem?_getD,-getElem?_pos,-getElem?_neg,om,bC,hq2]
theorem vr (line w:ag) (hl:line.length<190000) (hw:w.length<1000): ∃(t:ag) (q:Bool),aq cfg 130 [.str line,.str w] []=some (.aI [.str t,.bool q], [])∧iP al line w=if q=true then some t else none:=by
 unfold iP
 have hp:((w++ [32]).isPrefixOf line=true)↔(w.length+1≤line.length∧line.take (w.length+1)=w++ [32]):=by
  rw [List.isPrefixOf_iff_prefix];constructor
  ·rintro ⟨r,rfl⟩;refine ⟨by simp,?_⟩;rw [List.take_append_of_le_length (by simp)];exact List.take_of_length_le (by simp)
  ·rintro ⟨_,h⟩;exact ⟨line.drop (w.length+1),by rw [←h,List.take_append_drop]⟩
 by_cases h:(w++ [32]).isPrefixOf line=true
 ·rw [if_pos h];obtain ⟨h1,h2⟩:=hp.1 h;have hu:=Ni (line.drop (w.length+1)) (by simp;omega);rw [xm] at hu
  obtain ⟨t,q,hq,hr⟩: ∃t q,aq cfg 168 [.str (line.drop (w.length+1))] []=some (.aI [.str t,.bool q], [])∧al (line.drop (w.length+1))=if q=true then some t else none:=by
   cases hx:al (line.drop (w.length+1)) with
   | none=>rw [hx] at hu;exact ⟨[],false,hu,rfl⟩
   | some t=>rw [hx] at hu;exact ⟨t,true,hu,rfl⟩
  refine ⟨t,q,?_,hr⟩;refine ab KH HB ?_;clear hp hu hr h;have e1:((w.length:Int)+1).toNat=w.length+1:=by omega
  have e2: ¬ ((line.length:Int)<(w.length:Int)+1):=by omega
  have e3:(line.take line.length).drop (w.length+1)=line.drop (w.length+1):=by rw [List.take_length]
  simp (maxSteps:=9^9) (disch:=omega) [-List.map_replicate,-List.map_set,-List.getD_eq_getElem?_getD,-getElem?_pos,-getElem?_neg,om,D3,h1,h2,hq,e1,e2,e3]
 ·rw [if_neg h];refine ⟨[],false,?_,rfl⟩;refine ab KH HB ?_;by_cases h1:w.length+1≤line.length
  ·have h2:line.take (w.length+1)≠w++ [32]:=fun e=>h (hp.2 ⟨h1,e⟩);have e1:((w.length:Int)+1).toNat=w.length+1:=by omega
   have e2: ¬ ((line.length:Int)<(w.length:Int)+1):=by omega
   have h3:(line.take (w.length+1)==w++ [32])=false:=by rw [beq_eq_false_iff_ne];exact h2
   clear hp h;simp (maxSteps:=9^9) (disch:=omega) [-List.map_replicate,-List.map_set,-List.getD_eq_getElem?_getD,-getElem?_pos,-getElem?_neg,om,D3,h1,h2,h3,e1,e2]
  ·have e2:(line.length:Int)<(w.length:Int)+1:=by omega
   clear hp h;simp (maxSteps:=9^9) (disch:=omega) [-List.map_replicate,-List.map_set,-List.getD_eq_getElem?_getD,-getElem?_pos,-getElem?_neg,om,D3,e2]
set_option maxHeartbeats 8000000
def Bn (o:Option ag):AV:= .aI [.str (o.getD []),.bool o.isSome]
theorem Jv (nl:Option Bool) (z:Nat) (l:List (Cell×ag)) (hz:l≠ []→z=3) (hl:l.length<1000000) (hv: ∀u,((au l (4,u)).getD []).length≤1000) (s:ag) (hs:s.length≤10000):
  aq cfg 76 [.ak nl z (aC l),.str s] []=some (Bn (bZ (fun u=>au l (4,u)) s), []):=by
 refine ab TS RU ?_;have w:=fun u:Int=>qm nl z l hz hl (4,u);unfold kF at w;simp only at w;generalize hlook:(fun u=>au l (4,u))=look at*
 have hlk: ∀u,au l (4,u)=look u:=fun u=>by rw [←hlook]
 simp only [hlk] at w hv;clear hlk hlook;have hpl:=bM l;generalize aC l=E at*
 simp (maxSteps:=9^9) (disch:=omega) [-List.map_replicate,-List.map_set,-List.getD_eq_getElem?_getD,-getElem?_pos,-getElem?_neg,om,RV];refine Wp.aX (fun (a:ag×ag)=>a.1.length) (fun a=> [some (.ak nl z E),some (.str a.1),none,none,some (.str a.2),none,none,none,none,none,none,none,none,none,none]) (fun _=> []) (fun a=>bZ look s=(bZ look a.1).map (a.2++ ·)∧a.1.length≤10000∧a.2.length≤1000*(10000-a.1.length)) ?_ (s, []) ⟨by simp,hs,by simp⟩ (by simp) rfl;rintro ⟨t,out⟩ ⟨hi,htl,hol⟩;simp only at hi htl hol⊢;rw [hi];clear hi;cases t with
 | nil=>simp (maxSteps:=9^9) (disch:=omega) [-List.map_replicate,-List.map_set,-List.getD_eq_getElem?_getD,-getElem?_pos,-getElem?_neg,om,se,Bn]
 | cons x r=>
  have hp:=Fp (x::r) (by omega);unfold oT at hp;have hrl:(x::r).length=r.length+1:=rfl;by_cases h0:(an (x::r)).2=0
  ·rw [qh look _ _ h0];rw [h0] at hp;generalize (an (x::r)).1=p1 at*
   rw [hrl] at htl hol;clear hv w;simp (maxSteps:=9^9) (disch:=omega) [-List.map_replicate,-List.map_set,-List.getD_eq_getElem?_getD,-getElem?_pos,-getElem?_neg,om,hp,hrl];exact ⟨r,out++ [x],⟨by cases bZ look r <;> simp,by omega,by simp;omega⟩,by omega,by simp⟩
  ·rw [nL look _ h0];obtain ⟨q1,q2,q3,q4,q5⟩:=(dh (x::r)).resolve_left (fun h=>h0 (by rw [h]));obtain ⟨n,hn⟩: ∃n:Nat,(an (x::r)).2=n:=⟨(an (x::r)).2.toNat,by omega⟩;rw [hn] at hp q3 q4 h0⊢;rw [Int.toNat_natCast];have w1:=w (an (x::r)).1;have hcl1:=hv (an (x::r)).1;generalize (an (x::r)).1=p1 at*
   clear w hv;have hne:(x::r)≠ []:=by simp
   generalize x::r=t at*
   have h0': ¬ (n:Int)=0:=h0;have hnl:n≤t.length:=by omega
   have hdl:(t.drop n).length=t.length-n:=by simp
   clear hn q1 q2 q5;generalize look p1=lp at*
   cases lp with
   | none=>simp (maxSteps:=9^9) (disch:=omega) [-List.map_replicate,-List.map_set,-List.getD_eq_getElem?_getD,-getElem?_pos,-getElem?_neg,om,hp,hne,h0',w1,hnl,hpl,af,Bn]
   | some y=>simp only [Option.getD_some] at hcl1;simp (maxSteps:=9^9) (disch:=omega) [-List.map_replicate,-List.map_set,-List.getD_eq_getElem?_getD,-getElem?_pos,-getElem?_neg,om,hp,hne,h0',w1,hnl,hpl,af];exact ⟨t.drop n,out++y,⟨by cases bZ look (t.drop n) <;> simp,by omega,by simp;omega⟩,by omega,by simp⟩
def Nu (a:ag):Nat→Nat→Option (Nat×ag)→Option (Nat×ag)
 | 0,_,o=>o
 | k+1,n,o=>Nu a k (n+1) (oP al a n o)
def RW (lev:Nat) (title:ag):Option (Nat×ag):=if lev=0 then none else some (lev,title)
def vt:Option MG→AV
 | none=> .aI [.agg [.int .i64 0,.int .i64 0,.int .i64 0,.str [],.str [],.ak (some true) 0 []],.bool false]
 | some x=> .aI [.agg [.int .i64 0,.int .i64 0,.int .i64 x.level,.str x.mark,.str x.title,.ak none 3 (x.facts.map yu)],.bool true]
theorem Bo {a:ag} {n:Nat} {t:ag} (h:uV al a=some (n,t)):1≤n∧n≤4:=by
 rw [←xc] at h;unfold qg at h;cases hc:de a with
 | none=>rw [hc] at h;cases h
 | some p=>
  obtain ⟨w,r⟩:=p;rw [hc] at h;simp only at h;cases hu:al r with
  | none=>rw [hu] at h;cases h
  | some t'=>
   rw [hu] at h;simp only at h;split at h
   ·cases h
   ·injection h with h;injection h with h1 h2;have:=A7 w;omega
theorem mJ: ∀(s cur:ag),(bC cur s).1.length≤s.length
 | [],cur=>by simp [bC]
 | x::s,cur=>by
  unfold bC;split
  ·have:=mJ s [];simp;omega
  ·have:=mJ s (cur++ [x]);simp;omega
theorem vu {line:ag}: ∀(k e:Nat) {n:Nat} {t:ag},lF al line k e=some (n,t)→e≤n∧n<e+k
 | 0,e,n,t,h=>by cases h
 | k+1,e,n,t,h=>by
  unfold lF at h;split at h
  ·split at h
   ·have:=vu k (e+1) h;omega
   ·cases h;omega
  ·have:=vu k (e+1) h;omega
def U0 (FR:Option (Nat×ag)) (line:ag) (e:Nat):Option (Nat×ag)→Prop
 | none=>FR=lF al line (65-e) e
 | some p=>FR=some p
def Bp:Option (Nat×ag)→Option ag→Option (List (Nat×ag))→Option MG
 | some (n,t),some m,some f=>some ⟨n,t,m,f⟩
 | _,_,_=>none
theorem su (hd:ag→Option (Nat×ag)) (mk:ag→Option ag) (fs:List ag→Option (List (Nat×ag))) (a b:ag) (r:List ag):fT hd mk fs (some (a::b::r))=Bp (hd a) (mk b) (fs r):=by unfold fT Bp;rfl
theorem Jw (s:ag) (hs:s.length<900000) (hp: ∀p∈(bC [] s).1,p.length<190000):aq cfg 73 [.str s] []=some (vt (mB al s), []):=by
 refine ab TU RX ?_;obtain ⟨nl,w1⟩:=HA s (by omega);unfold mB uU;generalize hP:(bC [] s).1=P at*
 cases hok:(bC [] s).2 with
 | false=>rw [hok] at w1;simp (maxSteps:=9^9) (disch:=omega) [-List.map_replicate,-List.map_set,-List.getD_eq_getElem?_getD,-getElem?_pos,-getElem?_neg,om,HC,w1,af,fT,vt]
 | true=>
  rw [hok] at w1;rw [if_pos rfl]
  match P,hp with
  | [],_=>simp (maxSteps:=9^9) (disch:=omega) [-List.map_replicate,-List.map_set,-List.getD_eq_getElem?_getD,-getElem?_pos,-getElem?_neg,om,HC,w1,af,fT,vt]
  | [a],_=>simp (maxSteps:=9^9) (disch:=omega) [-List.map_replicate,-List.map_set,-List.getD_eq_getElem?_getD,-getElem?_pos,-getElem?_neg,om,HC,w1,af,fT,vt,aw]
  | a::b::r,hp=>
   have ha:=hp a (by simp);have hb:=hp b (by simp);obtain ⟨mk,mq,w2,w3⟩:=vr b kv (by omega) (by decide);rw [su,w3];unfold kv at w2;have hPl:(aw (a::b::r)).length=r.length+2:=by simp
   have hP0:(aw (a::b::r))[0]?=some (.str a):=rfl;have hP1:(aw (a::b::r))[1]?=some (.str b):=rfl;have hPk: ∀k (h:k<r.length),(aw (a::b::r))[k+2]?=some (.str r[k]):=fun k h=>by simp [aw,h]
   have hrl:r.length<1000000:=by have:=mJ s [];rw [hP] at this;simp at this;omega
   have hrp: ∀k (h:k<r.length),r[k].length<190000:=fun k h=>hp _ (by simp);clear hp hP hok;obtain ⟨RES,hRES⟩: ∃RES,RES=vt (Bp (uV al a) (if mq=true then some mk else none) (jO al 0 r)):=⟨_,rfl⟩;rw [←hRES];generalize aw (a::b::r)=E at*
   obtain ⟨BX,hBX⟩: ∃BX:Nat→ag→ag→List (Nat×ag)→List ad,BX=fun lev mark title fs=> [.var 73 [.int .i64 0,.int .i64 0,.int .i64 0,.str [],.str [],.az 1 0],.sl ⟨false,some 79,none⟩ 3 [],.var 73 [.int .i64 0,.int .i64 0,.int .i64 lev,.str mark,.str title,.az 3 fs.length],.sl ⟨false,some 79,none⟩ 3 (fs.map yu)]:=⟨_,rfl⟩;simp (maxSteps:=9^9) (disch:=omega) [-List.map_replicate,-List.map_set,-List.getD_eq_getElem?_getD,-getElem?_pos,-getElem?_neg,om,HC,w1,af,hPl];refine Wp.aX (fun (x:Nat×Nat×ag)=>5-x.1) (fun x=> [none,some (.ptr 0 0),none,some (.ak nl 1 E),none,some (.ptr 2 0),some (.int .i64 x.1),none,none,none,none,none,none,none,none,none,none,none,none,none,none,none,none,none,none,none,none,none,none,none,none,none,none,none,none,none,none,none,none,none]) (fun x=>BX x.2.1 [] x.2.2 []) (fun x=>uV al a=Nu a (5-x.1) x.1 (RW x.2.1 x.2.2)∧1≤x.1∧x.1≤5) ?_ (1,0, []) ⟨rfl,by simp,by simp⟩ (by simp) (by simp [hBX]);rintro ⟨n,lev,title⟩ ⟨hd,hn1,hn5⟩;simp only at hd hn1 hn5⊢;by_cases h1:n<5
   ·have ht:=D4 (n:Int) (by omega) (by omega);rw [←AW (by omega) (by omega),Int.toNat_natCast] at ht;obtain ⟨t,q,w4,w5⟩:=vr a (cG n) (by omega) (by unfold cG;split;decide;split;decide;split;decide;decide);rw [show 5-n=(5-(n+1))+1 by omega] at hd;unfold Nu oP at hd;rw [w5] at hd;generalize cG n=tg at*
    clear w5 w2 w3 hRES hPk hrp;subst hBX;cases q with
    | false=>rw [if_neg (by simp)] at hd;simp (maxSteps:=9^9) (disch:=omega) [-List.map_replicate,-List.map_set,-List.getD_eq_getElem?_getD,-getElem?_pos,-getElem?_neg,om,h1,hP0,hPl,ht,w4,af];exact ⟨n+1,lev,title,⟨hd,by omega,by omega⟩,by omega,by simp⟩
    | true=>
     rw [if_pos rfl] at hd;simp only at hd;by_cases he:t= []
     ·rw [if_pos he] at hd;subst he;simp (maxSteps:=9^9) (disch:=omega) [-List.map_replicate,-List.map_set,-List.getD_eq_getElem?_getD,-getElem?_pos,-getElem?_neg,om,h1,hP0,hPl,ht,w4,af];exact ⟨n+1,lev,title,⟨hd,by omega,by omega⟩,by omega,by simp⟩
     ·rw [if_neg he] at hd;simp (maxSteps:=9^9) (disch:=omega) [-List.map_replicate,-List.map_set,-List.getD_eq_getElem?_getD,-getElem?_pos,-getElem?_neg,om,h1,hP0,hPl,ht,w4,af,he];exact ⟨n+1,n,t,⟨by rw [hd];unfold RW;rw [if_neg (by omega)],by omega,by omega⟩,by omega,by simp⟩
   ·obtain rfl:n=5:=by omega
    have hd2:uV al a=RW lev title:=hd;clear hd;rw [hd2] at hRES;unfold RW at hRES;have hlv:0<lev→lev≤4:=fun h=>(Bo (a:=a) (n:=lev) (t:=title) (by rw [hd2];unfold RW;rw [if_neg (by omega)])).2;by_cases hl0:lev=0
    ·subst hl0;rw [if_pos rfl] at hRES;simp only [Bp] at hRES;subst hRES hBX;clear hPk hrp;simp (maxSteps:=9^9) (disch:=omega) [-List.map_replicate,-List.map_set,-List.getD_eq_getElem?_getD,-getElem?_pos,-getElem?_neg,om,hP1,hPl,w2,af,vt]
    ·rw [if_neg hl0] at hRES;cases mq with
     | false=>simp only [Bp] at hRES;subst hRES hBX;clear hPk hrp;simp (maxSteps:=9^9) (disch:=omega) [-List.map_replicate,-List.map_set,-List.getD_eq_getElem?_getD,-getElem?_pos,-getElem?_neg,om,hP1,hPl,w2,af,vt,hl0]
     | true=>
      rw [if_pos rfl] at hRES;have hl0': ¬ (lev:Int)=0:=by omega
      have hl0b:((lev:Int)==0)=false:=by simpa using hl0'
      have hBX2:=hBX;have hl4:=hlv (by omega);subst hBX2;simp (maxSteps:=9^9) (disch:=omega) [-List.map_replicate,-List.map_set,-List.getD_eq_getElem?_getD,-getElem?_pos,-getElem?_neg,om,hP1,hPl,w2,af,hl0',hl0b];clear w2 w3 hP0 hP1 hlv hd2;obtain ⟨Fss,hFss⟩: ∃Fss,Fss=jO al 0 r:=⟨_,rfl⟩;rw [←hFss] at hRES
      refine Wp.aX (fun (x:Nat×Nat×List (Nat×ag))=>r.length+2-x.1) (fun x=> [none,some (.ptr 0 0),none,some (.ak nl 1 E),none,some (.ptr 2 0),none,none,none,none,none,some (.int .i64 x.2.1),some (.int .i64 x.1),none,none,none,none,none,none,none,none,none,none,none,none,none,none,none,none,none,none,none,none,none,none,none,none,none,none,none]) (fun x=> [.var 73 [.int .i64 0,.int .i64 0,.int .i64 0,.str [],.str [],.az 1 0],.sl ⟨false,some 79,none⟩ 3 [],.var 73 [.int .i64 0,.int .i64 0,.int .i64 lev,.str mk,.str title,.az 3 x.2.2.length],.sl ⟨false,some 79,none⟩ 3 (x.2.2.map yu)])
       (fun x=>Fss=(jO al x.2.1 (r.drop (x.1-2))).map (x.2.2++ ·)∧2≤x.1∧x.1≤r.length+2∧x.2.1≤64∧x.2.2.length≤x.2.1) ?_ (2,0, []) ⟨by simpa using hFss,by simp,by simp,by simp,by simp⟩ (by simp) (by simp)
      clear hFss;rintro ⟨k,last,fs⟩ ⟨hf,hk2,hkl,hla,hfl⟩;simp only at hf hk2 hkl hla hfl⊢;by_cases h2:k<r.length+2
      ·have hEk:=hPk (k-2) (by omega);rw [show k-2+2=k by omega] at hEk;rw [List.drop_eq_getElem_cons (show k-2<r.length by omega)] at hf;have hlp:=hrp (k-2) (by omega);rw [show k-2+1=k+1-2 by omega] at hf;clear hPk hrp;generalize r[k-2]=line at*
       unfold jO at hf;obtain ⟨FR,hFR⟩: ∃FR,FR=lF al line (64-last) (last+1):=⟨_,rfl⟩;rw [←hFR] at hf
       have hFb: ∀n t,FR=some (n,t)→last<n∧n≤64:=fun n t h=>by
        rw [hFR] at h;have:=vu _ _ h;omega
       simp (maxSteps:=9^9) (disch:=omega) [-List.map_replicate,-List.map_set,-List.getD_eq_getElem?_getD,-getElem?_pos,-getElem?_neg,om,h2,hPl]
       refine Wp.aX (fun (x:Nat×Option (Nat×ag))=>130-2*x.1+(if x.2.isSome then 0 else 1)) (fun x=> [none,some (.ptr 0 0),none,some (.ak nl 1 E),none,some (.ptr 2 0),none,none,none,none,none,some (.int .i64 (match x.2 with | some p=>p.1 | none=>last:Nat)),some (.int .i64 k),some (.bool x.2.isSome),some (.int .i64 x.1),none,none,none,none,none,none,none,none,none,none,none,none,none,none,none,none,none,none,none,none,none,none,none,none,none]) (fun x=> [.var 73 [.int .i64 0,.int .i64 0,.int .i64 0,.str [],.str [],.az 1 0],.sl ⟨false,some 79,none⟩ 3 [],.var 73 [.int .i64 0,.int .i64 0,.int .i64 lev,.str mk,.str title,.az 3 (fs++x.2.toList).length],.sl ⟨false,some 79,none⟩ 3 ((fs++x.2.toList).map yu)])
        (fun x=>U0 FR line x.1 x.2∧1≤x.1∧x.1≤65) ?_ (last+1,none) ⟨by show FR=_;rw [hFR];congr 1;omega,by simp,by simp;omega⟩ (by simp) (by simp)
       rintro ⟨e,o⟩ ⟨hI,he1,he5⟩;simp only at hI he1 he5⊢;cases o with
       | some p=>have hI2:FR=some p:=hI;subst hI2;obtain ⟨pn,pt⟩:=p;obtain ⟨hb1,hb2⟩:=hFb pn pt rfl;clear hFb hI hFR;simp only at hf;clear hRES;simp (maxSteps:=9^9) (disch:=omega) [-List.map_replicate,-List.map_set,-List.getD_eq_getElem?_getD,-getElem?_pos,-getElem?_neg,om,h2,hPl];exact ⟨k+1,pn,fs++ [(pn,pt)],⟨by rw [hf];cases jO al pn (r.drop (k+1-2)) <;> simp,by omega,by omega,by omega,by simp;omega⟩,by omega,⟨rfl,by simp⟩,by simp,by simp⟩
       | none=>
        have hI2:FR=lF al line (65-e) e:=hI;by_cases h3:e<65
        ·rw [show 65-e=(65-(e+1))+1 by omega] at hI2;unfold lF at hI2;have hit:=xj (e:Int) (by omega) (by omega);rw [Int.toNat_natCast] at hit;obtain ⟨t,q,w4,w5⟩:=vr line (kr e) (by omega) (by unfold kr;split <;> simp);rw [w5] at hI2;rw [←hit] at w4;clear hFb hFR w5 hit hI;cases q with
         | false=>rw [if_neg (by simp)] at hI2;simp (maxSteps:=9^9) (disch:=omega) [-List.map_replicate,-List.map_set,-List.getD_eq_getElem?_getD,-getElem?_pos,-getElem?_neg,om,h3,hEk,hPl,w4,af,rj];exact ⟨e+1,none,⟨hI2,by omega,by omega⟩,by simp;omega,by simp⟩
         | true=>
          rw [if_pos rfl] at hI2;simp only at hI2;by_cases het:t= []
          ·rw [if_pos het] at hI2;subst het;simp (maxSteps:=9^9) (disch:=omega) [-List.map_replicate,-List.map_set,-List.getD_eq_getElem?_getD,-getElem?_pos,-getElem?_neg,om,h3,hEk,hPl,w4,af,rj];exact ⟨e+1,none,⟨hI2,by omega,by omega⟩,by simp;omega,by simp⟩
          ·rw [if_neg het] at hI2;simp (maxSteps:=9^9) (disch:=omega) [-List.map_replicate,-List.map_set,-List.getD_eq_getElem?_getD,-getElem?_pos,-getElem?_neg,om,h3,hEk,hPl,w4,af,het,rj,yu];exact ⟨e+1,some (e,t),⟨hI2,by omega,by omega⟩,by simp;omega,⟨rfl,rfl,by simp⟩,rfl,rfl⟩
        ·obtain rfl:e=65:=by omega
         have hI3:FR=none:=hI2;subst hI3;simp only at hf;rw [hf] at hRES;subst hRES;simp (maxSteps:=9^9) (disch:=omega) [-List.map_replicate,-List.map_set,-List.getD_eq_getElem?_getD,-getElem?_pos,-getElem?_neg,om,af,Bp,vt]
      ·obtain rfl:k=r.length+2:=by omega
       rw [List.drop_eq_nil_of_le (by omega)] at hf;simp only [jO,Option.map_some,List.append_nil] at hf;rw [hf] at hRES;simp only [Bp] at hRES;subst hRES;simp (maxSteps:=9^9) (disch:=omega) [-List.map_replicate,-List.map_set,-List.getD_eq_getElem?_getD,-getElem?_pos,-getElem?_neg,om,hPl,af,vt]
theorem Bq {look:Int→Option ag} (h: ∀u,((look u).getD []).length≤1000) (s:ag):((bZ look s).getD []).length≤1000*s.length:=by
 have h1:=sq h s;rw [ni look _ s (Nat.le_refl _)];split
 ·simp
 ·simpa using h1
theorem vv {s:ag}: ∀p∈(bC [] s).1,p∈splitB 10 s:=by
 intro p hp;rw [gd] at hp
 have hh:lq [] (splitB 10 s)=splitB 10 s:=by
  cases hs:splitB 10 s with
  | nil=>rfl
  | cons p r=>rfl
 rw [hh] at hp;exact (List.dropLast_sublist _).subset hp
theorem C0 {v:ag} {x:MG} (h:mB al v=some x):1≤x.level∧x.level≤4:=by
 unfold mB at h;cases hP:uU v with
 | none=>rw [hP] at h;cases h
 | some P=>
  rw [hP] at h
  match P with
  | []=>cases h
  | [a]=>cases h
  | a::b::r=>
   rw [su] at h;unfold Bp at h;split at h
   ·rename_i n t m f h1 h2 h3;injection h with h;subst h;exact Bo h1
   ·cases h
theorem Hz (unit:Int) (nl:Option Bool) (z:Nat) (l:List (Cell×ag)) (hz:l≠ []→z=3) (hl:l.length<1000000)
  (hv1:((au l (1,unit)).getD []).length≤10000) (hv2:((au l (2,unit)).getD []).length<900000) (hv3: ∀p∈splitB 10 ((au l (2,unit)).getD []),p.length≤10000) (hv4: ∀k u,k=3∨k=4→((au l (k,u)).getD []).length≤1000) (hv5: ∀p∈splitB 10 ((au l (2,unit)).getD []).dropLast,p.length≤10000):
  aq cfg 31 [.int .i64 unit,.ak nl z (aC l)] []=some (cZ (iU al unit l), []):=by
 refine ab TV RY ?_;have hE: ∀k (h:k<l.length),(aC l)[k]?=some (.agg [.int .i64 l[k].1.1,.int .i64 l[k].1.2,.str l[k].2]):=fun k h=>get_map _ _ h;have hEl:(aC l).length=l.length:=by simp [aC]
 have hone:=Bb l;have w1:=qm nl z l hz hl (1,unit);have w2:=qm nl z l hz hl (2,unit);have w3:=fun u:Int=>qm nl z l hz hl (3,u);have w4:=Jv nl z l hz hl (fun u=>hv4 4 u (.inr rfl));have hxl: ∀t:ag,t.length≤10000→((bZ (fun u=>au l (4,u)) t).getD []).length≤10000000:=fun t ht=>by have:=Bq (look:=fun u=>au l (4,u)) (fun u=>hv4 4 u (.inr rfl)) t;omega
 unfold kF at w1 w2 w3;simp only at w1 w2 w3;obtain ⟨RES,hRES⟩: ∃RES,RES=iU al unit l:=⟨_,rfl⟩;rw [←hRES];unfold iU at hRES;have hpl:=bM l;generalize aC l=E at*
 simp (maxSteps:=9^9) (disch:=omega) [-List.map_replicate,-List.map_set,-List.getD_eq_getElem?_getD,-getElem?_pos,-getElem?_neg,om,RZ];refine Wp.aX (fun (i:Nat)=>l.length+1-i) (fun i=> [some (.int .i64 unit),some (.ak nl z E),some (.ptr 0 0),none,some (.int .i64 i),none,none,none,none,none,none,none,none,none,none,none,none,none,none,none,none,none,none,none,none,none,none,none,none,none,none,none,none,none,none,none,none,none,none,none,none,none,none,none,none,none,none,none,none]) (fun _=> [.var 46 [.int .i64 0,.str [],.az 1 0],.sl ⟨false,some 75,none⟩ 3 []]) (fun i=>1≤i∧i≤l.length+1∧sD l=sD (l.drop (i-1))) ?_ 1 ⟨by simp,by simp,by simp⟩ (by simp) (by simp);rintro i ⟨hi1,hil,hadj⟩;by_cases h1:i<l.length
 ·have hg:=hE i h1;obtain rfl:=hz (ne_of_lt h1);have hg2:=hE (i-1) (by omega);obtain ⟨r1,hr1⟩: ∃r,r=l[i-1]:=⟨_,rfl⟩;obtain ⟨r2,hr2⟩: ∃r,r=l[i]:=⟨_,rfl⟩;rw [←hr1] at hg2;rw [←hr2] at hg;have hi3:i-1+1=i:=by omega
  have hs:=xp (l:=l) (i:=i-1) (a:=r1) (b:=r2) (by rw [hr1];exact List.getElem?_eq_getElem (by omega)) (by rw [hi3,hr2];exact List.getElem?_eq_getElem h1);rw [hi3] at hs;have hc:=Fo r1.1 r2.1;have hi4:((i:Int)-1).toNat=i-1:=by omega
  unfold kF at hc;clear w1 w2 w3 w4 hone hE hr1 hr2 hxl;generalize eI r1.1 r2.1=bb at*
  cases bb with
  | true=>rw [hs,Bool.true_and] at hadj;simp (maxSteps:=9^9) (disch:=omega) [-List.map_replicate,-List.map_set,-List.getD_eq_getElem?_getD,-getElem?_pos,-getElem?_neg,om,h1,hg,hg2,hc,hi4,hEl];exact ⟨i+1,⟨by omega,by omega,by simpa using hadj⟩,by omega,by simp⟩
  | false=>rw [hs,Bool.false_and] at hadj;rw [hadj,if_neg (by simp)] at hRES;subst hRES;simp (maxSteps:=9^9) (disch:=omega) [-List.map_replicate,-List.map_set,-List.getD_eq_getElem?_getD,-getElem?_pos,-getElem?_neg,om,h1,hg,hg2,hc,hi4,hEl,cZ,jT,af]
 ·have hadj2:sD l=true:=by
   rw [hadj];rcases Nat.lt_or_ge l.length i with h | h
   ·rw [List.drop_eq_nil_of_le (by omega)];rfl
   ·obtain rfl:i=l.length:=by omega
    exact hone
  rw [hadj2,if_pos rfl] at hRES;clear hone hE hadj hadj2;unfold I7 at hRES;have hne2:(au l (2,unit)).getD []≠ []→jP al ((au l (2,unit)).getD [])=mB al ((au l (2,unit)).getD []):=CN al;have hvR: ∀p∈(bC [] ((au l (2,unit)).getD [])).1,p.length<190000:=fun p hp=>by have:=hv3 p (vv p hp);omega
  generalize (au l (1,unit)).getD []=num at*
  generalize (au l (2,unit)).getD []=txt at*
  generalize (au l (1,unit)).isSome=b1 at*
  generalize (au l (2,unit)).isSome=b2 at*
  by_cases hem:num= []∨txt= []
  ·rw [if_pos hem] at hRES;subst hRES;clear hne2;rcases hem with rfl | rfl
   ·simp (maxSteps:=9^9) (disch:=omega) [-List.map_replicate,-List.map_set,-List.getD_eq_getElem?_getD,-getElem?_pos,-getElem?_neg,om,h1,hEl,w1,w2,hpl,cZ,jT,af]
   ·by_cases hn:num= []
    ·subst hn;simp (maxSteps:=9^9) (disch:=omega) [-List.map_replicate,-List.map_set,-List.getD_eq_getElem?_getD,-getElem?_pos,-getElem?_neg,om,h1,hEl,w1,w2,hpl,cZ,jT,af]
    ·simp (maxSteps:=9^9) (disch:=omega) [-List.map_replicate,-List.map_set,-List.getD_eq_getElem?_getD,-getElem?_pos,-getElem?_neg,om,h1,hEl,w1,w2,hpl,cZ,jT,af,hn]
  rw [if_neg hem] at hRES;have hn1:num≠ []:=fun h=>hem (.inl h);have hn2:txt≠ []:=fun h=>hem (.inr h);have k2:=hne2 hn2;rw [k2] at hRES;have k1:=Jw txt hv2 hvR;clear hem hne2 hvR;cases hsh:mB al txt with
  | none=>rw [hsh] at k1 hRES;simp only [vt] at k1 hRES;subst hRES;clear w3 w4 hxl;simp (maxSteps:=9^9) (disch:=omega) [-List.map_replicate,-List.map_set,-List.getD_eq_getElem?_getD,-getElem?_pos,-getElem?_neg,om,h1,hEl,w1,w2,k1,hpl,cZ,jT,af,hn1,hn2]
  | some x=>
   obtain ⟨lev,title,mark,facts⟩:=x;rw [hsh] at k1 hRES k2;simp only [vt] at k1 hRES;obtain ⟨k4,k5⟩:=C0 hsh;obtain ⟨tl,ml,fl,hfb⟩:=oS (N:=10000) k2 hv5;simp only at k4 k5 tl ml fl hfb;have w5:=D4 (lev:Int) (by omega) (by omega);rw [xq k4 k5] at w5;have w6:=Fq num (by omega);have hdl:aN num≤num.length:=List.count_le_length;have hF: ∀i (h:i<facts.length),(facts.map yu)[i]?=some (.agg [.int .i64 facts[i].1,.str [],.str facts[i].2]):=fun i h=>get_map _ _ h;have hFl:(facts.map yu).length=facts.length:=by simp
   have hR2:RES=match (dV l (aN num+1) facts).map ((⟨aN num,cG lev,num++ [32]++title⟩::mC (aN num+1) mark)++ ·) with | none=>(7,none) | some N=>(0,some ⟨unit,num,N⟩):=by rw [hRES];cases dV l (aN num+1) facts <;> rfl
   clear hRES;have hRES:=hR2;clear hR2;generalize facts.map yu=FA at*
   generalize cG lev=tg at*
   have hw0:IntKind.i64.wrap ((aN num:Int)+1)=aN num+1:=wrap_i64 (by omega) (by omega);clear hv3 hv5 hsh k2 hv2;by_cases hmk:mark= []
   ·subst hmk;generalize hNO:(dV l (aN num+1) facts).map ((⟨aN num,tg,num++ [32]++title⟩::mC (aN num+1) [])++ ·)=NO at*
    simp (maxSteps:=9^9) (disch:=omega) [-List.map_replicate,-List.map_set,-List.getD_eq_getElem?_getD,-getElem?_pos,-getElem?_neg,om,h1,hEl,w1,w2,k1,hpl,af,hn1,hn2,w5,w6,hFl]
    refine Wp.aX (fun (x:Nat×List Nd)=>facts.length-x.1) (fun x=> [none,some (.ak nl z E),some (.ptr 0 0),none,none,none,none,some (.ptr 2 0),none,some (.int .i64 (aN num)),some (.ptr 4 0),some (.int .i64 x.1),none,none,none,none,none,none,none,none,none,none,none,none,none,none,none,none,none,none,none,none,none,none,none,none,none,none,none,none,none,none,none,none,none,none,none,none,none]) (fun x=> [.var 46 [.int .i64 0,.str [],.az 1 0],.sl ⟨false,some 75,none⟩ 3 [],.var 73 [.int .i64 0,.int .i64 0,.int .i64 lev,.str [],.str title,.ak none 3 FA],.sl ⟨false,some 75,none⟩ 3 (x.2.map ff),.var 46 [.int .i64 unit,.str num,.az 3 x.2.length]])
     (fun x=>NO=(dV l (aN num+1) (facts.drop x.1)).map (x.2++ ·)∧x.1≤facts.length∧x.2.length≤x.1+2) ?_ (0, [⟨aN num,tg,num++ [32]++title⟩]) ⟨by rw [←hNO];simp [mC],by simp,by simp⟩ (by simp) (by simp [ff])
    clear hNO;rintro ⟨i,N⟩ ⟨hi,hil,hNl⟩;simp only at hi hil hNl⊢;by_cases q1:i<facts.length
    ·have hg:=hF i q1;obtain ⟨ftl,fel⟩:=hfb _ (List.getElem_mem q1);rw [List.drop_eq_getElem_cons q1] at hi;simp only [dV] at hi;have x1:=w3 facts[i].1;have x2:=w4 facts[i].2 ftl;have hb1:=hv4 3 facts[i].1 (.inl rfl);have hb2:=hxl facts[i].2 ftl;have hNm:(N.map ff).length=N.length:=by simp
     clear w1 w2 k1 w3 w4 w5 w6 hF hfb hxl;generalize facts[i]=f at*
     generalize au l (3,(f.1:Int))=lab at*
     generalize bZ (fun u=>au l (4,u)) f.2=xt at*
     unfold Bn at x2;cases lab with
     | none=>simp only [Option.map_none] at hi;subst hi;simp only at hRES;subst hRES;simp (maxSteps:=9^9) (disch:=omega) [-List.map_replicate,-List.map_set,-List.getD_eq_getElem?_getD,-getElem?_pos,-getElem?_neg,om,q1,hg,af,x1,x2,hw0,hNm,hFl,hpl,cZ,jT]
     | some lb=>
      cases xt with
      | none=>simp only [Option.map_none] at hi;subst hi;simp only at hRES;subst hRES;simp (maxSteps:=9^9) (disch:=omega) [-List.map_replicate,-List.map_set,-List.getD_eq_getElem?_getD,-getElem?_pos,-getElem?_neg,om,q1,hg,af,x1,x2,hw0,hNm,hFl,hpl,cZ,jT]
      | some t=>simp only [Option.getD_some] at hb1 hb2;clear hRES;simp (maxSteps:=9^9) (disch:=omega) [-List.map_replicate,-List.map_set,-List.getD_eq_getElem?_getD,-getElem?_pos,-getElem?_neg,om,q1,hg,af,x1,x2,hw0,hNm,hFl,hpl];exact ⟨i+1,N++ [⟨(aN num:Int)+1, [112],lb++58::32::t⟩],⟨by rw [hi];cases dV l (↑(aN num)+1) (facts.drop (i+1)) <;> simp,by omega,by simp;omega⟩,by omega,by simp,by simp [ff],by simp⟩
    ·rw [List.drop_eq_nil_of_le (by omega)] at hi;simp only [dV,Option.map_some,List.append_nil] at hi;subst hi;simp only at hRES;subst hRES;clear w1 w2 w3 w4 w5 w6 k1 hF hfb hxl;simp (maxSteps:=9^9) (disch:=omega) [-List.map_replicate,-List.map_set,-List.getD_eq_getElem?_getD,-getElem?_pos,-getElem?_neg,om,q1,af,hFl,cZ,cD]
   ·
    generalize hNO:(dV l (aN num+1) facts).map ((⟨aN num,tg,num++ [32]++title⟩::mC (aN num+1) mark)++ ·)=NO at*
    simp (maxSteps:=9^9) (disch:=omega) [-List.map_replicate,-List.map_set,-List.getD_eq_getElem?_getD,-getElem?_pos,-getElem?_neg,om,h1,hEl,w1,w2,k1,hpl,af,hn1,hn2,w5,w6,hFl,hmk,hw0]
    refine Wp.aX (fun (x:Nat×List Nd)=>facts.length-x.1) (fun x=> [none,some (.ak nl z E),some (.ptr 0 0),none,none,none,none,some (.ptr 2 0),none,some (.int .i64 (aN num)),some (.ptr 4 0),some (.int .i64 x.1),none,none,none,none,none,none,none,none,none,none,none,none,none,none,none,none,none,none,none,none,none,none,none,none,none,none,none,none,none,none,none,none,none,none,none,none,none]) (fun x=> [.var 46 [.int .i64 0,.str [],.az 1 0],.sl ⟨false,some 75,none⟩ 3 [],.var 73 [.int .i64 0,.int .i64 0,.int .i64 lev,.str mark,.str title,.ak none 3 FA],.sl ⟨false,some 75,none⟩ 3 (x.2.map ff),.var 46 [.int .i64 unit,.str num,.az 3 x.2.length],.sl ⟨false,some 75,none⟩ 3 [.agg [.int .i64 ((aN num:Int)+1),.str [109,97,114,107],.str mark]],.dead])
     (fun x=>NO=(dV l (aN num+1) (facts.drop x.1)).map (x.2++ ·)∧x.1≤facts.length∧x.2.length≤x.1+2) ?_ (0, [⟨aN num,tg,num++ [32]++title⟩,⟨(aN num:Int)+1, [109,97,114,107],mark⟩]) ⟨by rw [←hNO];simp [mC,hmk],by simp,by simp⟩ (by simp) (by simp [ff])
    clear hNO;rintro ⟨i,N⟩ ⟨hi,hil,hNl⟩;simp only at hi hil hNl⊢;by_cases q1:i<facts.length
    ·have hg:=hF i q1;obtain ⟨ftl,fel⟩:=hfb _ (List.getElem_mem q1);rw [List.drop_eq_getElem_cons q1] at hi;simp only [dV] at hi;have x1:=w3 facts[i].1;have x2:=w4 facts[i].2 ftl;have hb1:=hv4 3 facts[i].1 (.inl rfl);have hb2:=hxl facts[i].2 ftl;have hNm:(N.map ff).length=N.length:=by simp
     clear w1 w2 k1 w3 w4 w5 w6 hF hfb hxl;generalize facts[i]=f at*
     generalize au l (3,(f.1:Int))=lab at*
     generalize bZ (fun u=>au l (4,u)) f.2=xt at*
     unfold Bn at x2;cases lab with
     | none=>simp only [Option.map_none] at hi;subst hi;simp only at hRES;subst hRES;simp (maxSteps:=9^9) (disch:=omega) [-List.map_replicate,-List.map_set,-List.getD_eq_getElem?_getD,-getElem?_pos,-getElem?_neg,om,q1,hg,af,x1,x2,hw0,hNm,hFl,hpl,cZ,jT]
     | some lb=>
      cases xt with
      | none=>simp only [Option.map_none] at hi;subst hi;simp only at hRES;subst hRES;simp (maxSteps:=9^9) (disch:=omega) [-List.map_replicate,-List.map_set,-List.getD_eq_getElem?_getD,-getElem?_pos,-getElem?_neg,om,q1,hg,af,x1,x2,hw0,hNm,hFl,hpl,cZ,jT]
      | some t=>simp only [Option.getD_some] at hb1 hb2;clear hRES;simp (maxSteps:=9^9) (disch:=omega) [-List.map_replicate,-List.map_set,-List.getD_eq_getElem?_getD,-getElem?_pos,-getElem?_neg,om,q1,hg,af,x1,x2,hw0,hNm,hFl,hpl];exact ⟨i+1,N++ [⟨(aN num:Int)+1, [112],lb++58::32::t⟩],⟨by rw [hi];cases dV l (↑(aN num)+1) (facts.drop (i+1)) <;> simp,by omega,by simp;omega⟩,by omega,by simp,by simp [ff],by simp⟩
    ·rw [List.drop_eq_nil_of_le (by omega)] at hi;simp only [dV,Option.map_some,List.append_nil] at hi;subst hi;simp only at hRES;subst hRES;clear w1 w2 w3 w4 w5 w6 k1 hF hfb hxl;simp (maxSteps:=9^9) (disch:=omega) [-List.map_replicate,-List.map_set,-List.getD_eq_getElem?_getD,-getElem?_pos,-getElem?_neg,om,q1,af,hFl,cZ,cD]
end Go.Proofs.YtfnkchadeaedlaaGreatDoor
