/- Strings at one byte: -/
import Derived.Lib.Index
import Derived.Test.YtfgbpngakkhdcaaGreatDoorEscM
import Derived.Test.YtfgbpngakkhdcaaGreatDoorAduM
open List renaming concat_eq_append->ado,count_le_length->adp,drop_append->adq,drop_left'->adr,drop_of_length_le->ads,eq_nil_or_concat->adt,getD_cons_zero->adu,getD_eq_getElem?_getD->aaE,getElem?_append_right->abW,getElem?_replicate->acK,getLast?_concat->adv,map_replicate->aaO,map_set->aaP,take_left'->aaZ,take_length->adn,take_of_length_le->ade
set_option linter.all false
namespace Go.Proofs.YtfgbpngakkhdcaaGreatDoor
open Go.Am
set_option maxRecDepth 10000
set_option maxHeartbeats 4000000
theorem index_one (c:UInt8): ∀s:ae,Lib.index s [c]=Lib.indexByte s c
 | []=>rfl
 | b::l=>by
  simp only [Lib.index,Lib.indexByte,index_one c l,List.isPrefixOf,Bool.and_true];by_cases h:b=c
  ·subst h;simp
  ·simp [h,Ne.symm h]
theorem IT (s:ae) (c:UInt8) (h2:s.length<100000000):aq cfg 145 [.str s,.str [c]] []=some (.int .i64 (Lib.indexByte s c), []):=by
 have hi:s.length<4294967281:=by omega
 refine aa WG Sb ?_;simp (maxSteps:=9^9) (disch:=omega) [-aaO,-aaP,-aaE,-getElem?_pos,-getElem?_neg,om,PV,D9,hi,index_one]
theorem IU (s:ae) (c:UInt8):aq cfg 93 [.str s,.str [c]] []=some (.int .i64 (s.count c), []):=by refine aa U8 Pm ?_;simp (maxSteps:=9^9) (disch:=omega) [-aaO,-aaP,-aaE,-getElem?_pos,-getElem?_neg,om,QE,Ao,Lib.countByte]
def IV (s:ae):AV:=match eO s with
 | some (a,b)=> .aL [.str a,.str b,.bool true]
 | none=> .aL [.str s,.str [],.bool false]
theorem pW: ∀s:ae,Lib.indexByte s 32=(match eO s with
   | some (a,_)=>(a.length:Int)
   | none=> -1)
 | []=>rfl
 | c::r=>by
  have ih:=pW r;simp only [Lib.indexByte,eO];by_cases h:c=32
  ·subst h;simp
  ·have h':(c==32)=false:=by simpa using h
   rw [if_neg h,h',ih];cases eO r with
   | none=>rfl
   | some p=>
    have hne:(((p.1.length:Int))== -1)=false:=by rw [beq_eq_false_iff_ne];omega
    simp [hne]
theorem Gc (s:ae) (hs:s.length<1000000):aq cfg 179 [.str s,.str [32]] []=some (IV s, []):=by
 have h:aq cfg 210 [.str s,.str [32]] []=some (IV s, []):=by
  have hi:s.length<4294967281:=by omega
  refine aa WH Sc ?_;have hx:=index_one 32 s;rw [pW] at hx;unfold IV;cases hc:eO s with
  | none=>rw [hc] at hx;simp (maxSteps:=9^9) (disch:=omega) [-aaO,-aaP,-aaE,-getElem?_pos,-getElem?_neg,om,Lq,D9,hi,hx]
  | some p=>
   obtain ⟨a,b⟩:=p;rw [hc] at hx;simp only at hx;obtain ⟨h1,_⟩:=gj hc;have ht:s.take a.length=a:=by rw [h1];exact aaZ rfl
   have hl:s.length=a.length+1+b.length:=by rw [h1];simp;omega
   have hd:(s.take s.length).drop (a.length+1)=b:=by rw [adn,h1,adq,ads (by omega)];simp
   rw [hl] at hd hi;clear h1 hc;simp (maxSteps:=9^9) (disch:=omega) [-aaO,-aaP,-aaE,-getElem?_pos,-getElem?_neg,om,Lq,D9,hi,hx,ht,hd,hl]
 refine aa WI Sd ?_;unfold IV at h⊢;cases hc:eO s with
 | none=>rw [hc] at h;simp (maxSteps:=9^9) (disch:=omega) [-aaO,-aaP,-aaE,-getElem?_pos,-getElem?_neg,om,Lr,h]
 | some p=>rw [hc] at h;simp (maxSteps:=9^9) (disch:=omega) [-aaO,-aaP,-aaE,-getElem?_pos,-getElem?_neg,om,Lr,h]
theorem sL (s:ae) (hs:s.length<1000000):aq cfg 207 [.str s,.str [10]] []=some (.bool (decide (s.getLast?=some 10)), []):=by
 refine aa WJ Se ?_;rcases adt s with rfl | ⟨u,x,rfl⟩
 ·simp (maxSteps:=9^9) (disch:=omega) [-aaO,-aaP,-aaE,-getElem?_pos,-getElem?_neg,om,Ls]
 ·have hl:(u++ [x]).length=u.length+1:=by simp
  have hd:((u++ [x]).take (u.length+1)).drop u.length= [x]:=by rw [ade (by simp),adr rfl]
  have hd2:(u++ [x]).drop u.length= [x]:=adr rfl;have hg:decide ((u++ [x]).getLast?=some 10)=(x==10):=by simp;rfl
  have e1:((u.length:Int)+1-1).toNat=u.length:=by omega
  rw [ado] at*
  rw [hg];generalize u++ [x]=s at*
  simp (maxSteps:=9^9) (disch:=omega) [-aaO,-aaP,-aaE,-getElem?_pos,-getElem?_neg,om,Ls,hl,hd,hd2,e1]
theorem Lt (s:ae) (hs:s.length<1000000):aq cfg 176 [.str s,.str [10]] []=some (.bool (decide (s.getLast?=some 10)), []):=by refine aa WK Sf ?_;simp (maxSteps:=9^9) (disch:=omega) [-aaO,-aaP,-aaE,-getElem?_pos,-getElem?_neg,om,PW,sL s hs]
theorem IW (u:ae) (hs:u.length<900000):aq cfg 178 [.str (u++ [10]),.str [10]] []=some (.str u, []):=by
 have h:aq cfg 209 [.str (u++ [10]),.str [10]] []=some (.str u, []):=by
  refine aa WL Sg ?_;have h1:=sL (u++ [10]) (by simp;omega);rw [show decide ((u++ [(10:UInt8)]).getLast?=some 10)=true by simp] at h1;have hl:(u++ [(10:UInt8)]).length=u.length+1:=by simp
  have ht:(u++ [(10:UInt8)]).take u.length=u:=aaZ rfl;generalize u++ [(10:UInt8)]=s at*
  simp (maxSteps:=9^9) (disch:=omega) [-aaO,-aaP,-aaE,-getElem?_pos,-getElem?_neg,om,PX,h1,hl,ht]
 refine aa WM Si ?_;simp (maxSteps:=9^9) (disch:=omega) [-aaO,-aaP,-aaE,-getElem?_pos,-getElem?_neg,om,PY,h]
theorem zR {c:UInt8}: ∀{p:List UInt8} (r:List UInt8),c∉p->Lib.indexByte (p++c::r) c=(p.length:Int)
 | [],r,_=>by simp [Lib.indexByte]
 | x::p,r,h=>by
  simp only [List.mem_cons,not_or] at h;have ih:=zR r h.2;have hx:(x==c)=false:=by simpa using Ne.symm h.1
  have hne:(((p.length:Int))== -1)=false:=by rw [beq_eq_false_iff_ne];omega
  simp only [List.cons_append,Lib.indexByte,hx,Bool.false_eq_true,if_false,ih,hne,List.length_cons];omega
theorem xV {c:UInt8}: ∀{r:List UInt8},2<=(splitB c r).length-> ∃p q,r=p++c::q∧c∉p
 | [],h=>by simp [splitB] at h
 | x::r,h=>by
  by_cases hx:x=c
  ·exact ⟨[],r,by simp [hx],by simp⟩
  ·have h2:2<=(splitB c r).length:=by
    simp only [splitB,if_neg hx] at h;split at h
    ·rename_i e;rw [e];simpa using h
    ·simp at h
   obtain ⟨p,q,h3,h4⟩:=xV h2;exact ⟨x::p,q,by rw [h3];rfl,by simp [Ne.symm hx,h4]⟩
theorem Gd {c:UInt8} {r:List UInt8} (h:(splitB c r).length=1):splitB c r= [r]:=by apply zF;intro hm;obtain ⟨p,q,rfl⟩:=List.append_of_mem hm;rw [jo] at h;simp at h
theorem Ea (P:List (List UInt8)) (k:Nat) (x:List UInt8):(P.map AV.str++List.replicate (k+1) (AV.str [])).set P.length (.str x)=(P++ [x]).map AV.str++List.replicate k (AV.str []):=by rw [List.replicate_succ,List.set_append_right _ _ (by simp)];simp
theorem IX (s:List UInt8) (c:UInt8) (hs:s.length<100000000):aq cfg 177 [.str s,.str [c]] []=some (.ag none 1 ((splitB c s).map AV.str), []):=by
 have h1:aq cfg 208 [.str s,.str [c],.int .i64 0,.int .i64 (-1)] []=some (.ag none 1 ((splitB c s).map AV.str), []):=by
  refine aa WN Sj ?_;have hc:=IU s c;have hN:=jo c s;have hle:s.count c<=s.length:=adp;generalize s.count c=N at*
  have hmin:((N:Int)+1<=(s.length:Int)+1):=by omega
  simp (maxSteps:=9^9) (disch:=omega) [-aaO,-aaP,-aaE,-getElem?_pos,-getElem?_neg,om,PZ,hc]
  refine Wp.aP (fun (a:List (List UInt8)×List UInt8)=>N-a.1.length) (fun a=> [some (.str a.2),some (.str [c]),some (.int .i64 0),some (.int .i64 N),none,some (.ax 0 (N+1)),some (.int .i64 a.1.length),none,none,none,none,none,none,none,none,none,none,none,none])
   (fun a=> [.sl ⟨false,some 9,none⟩ 1 (a.1.map AV.str++List.replicate (N+1-a.1.length) (AV.str []))])
   (fun a=>a.1.length<=N∧splitB c s=a.1++splitB c a.2∧a.2.length<=s.length) ?_ ([],s) ⟨by simp,rfl,Nat.le_refl _⟩ (by simp) (by simp)
  rintro ⟨P,r⟩ ⟨hP,hsp,hrl⟩;simp only at hP hsp hrl⊢
  have hr:(splitB c r).length=N+1-P.length:=by have:=congrArg List.length hsp;rw [List.length_append] at this;omega
  by_cases hlt:P.length<N
  ·obtain ⟨p,q,rfl,hp⟩:=xV (by rw [hr];omega);have hi:=IT (p++c::q) c (by omega);rw [zR q hp] at hi;rw [qM q hp] at hsp;have hk:N+1-P.length=(N-P.length)+1:=by omega
   have hlen:(P.map AV.str++List.replicate (N+1-P.length) (AV.str [])).length=N+1:=by simp;omega
   have hget:(P.map AV.str++List.replicate (N+1-P.length) (AV.str []))[P.length]?=some (.str []):=by rw [abW (by simp),acK,if_pos (by simp;omega)]
   have hset:=Ea P (N-P.length) p;rw [<-hk] at hset;have ht:(p++c::q).take p.length=p:=aaZ rfl
   have hd:((p++c::q).take (p++c::q).length).drop (p.length+1)=q:=by rw [adn,adq,ads (by omega)];simp
   have hl:(p++c::q).length=p.length+1+q.length:=by simp;omega
   have hp2:p.length+1<=s.length:=by omega
   generalize P.map AV.str++List.replicate (N+1-P.length) (AV.str [])=L at*
   generalize hR:p++c::q=R at*
   rw [hl] at hd;simp (maxSteps:=9^9) (disch:=omega) [-aaO,-aaP,-aaE,-getElem?_pos,-getElem?_neg,om,hi,hlen,hget,hset,ht,hd,hl];refine ⟨P++ [p],q,⟨by simp;omega,by rw [hsp];simp,by omega⟩,by simp;omega,⟨rfl,by simp⟩,?_⟩;have e:N+1-(P++ [p]).length=N-P.length:=by simp
   rw [e];simp
  ·obtain rfl:P.length=N:=by omega
   have h1:=Gd (c:=c) (r:=r) (by rw [hr];omega);rw [h1] at hsp;have hset:=Ea P 0 r;have e:P.length+1-P.length=0+1:=by omega
   rw [e,hsp];have hlen:(P.map AV.str++List.replicate (0+1) (AV.str [])).length=P.length+1:=by simp
   have hget:(P.map AV.str++List.replicate (0+1) (AV.str []))[P.length]?=some (.str []):=by rw [abW (by simp),acK,if_pos (by simp)]
   generalize P.map AV.str++List.replicate (0+1) (AV.str [])=L at*
   rw [List.replicate_zero,List.append_nil] at hset;simp (maxSteps:=9^9) (disch:=omega) [-aaO,-aaP,-aaE,-getElem?_pos,-getElem?_neg,om,hlen,hget,hset]
   try exact ade (by simp)
 refine aa WO Sk ?_;simp (config:={maxSteps:=1000000}) (disch:=omega) [-aaO,-aaP,-aaE,-getElem?_pos,-getElem?_neg,wrap_i64,oS,ki,kj,jh,P0,h1]
theorem pA (s:ae) (hs:s.length<190000): ∃(t:ae) (q:Bool),aq cfg 181 [.str s] []=some (.aL [.str t,.bool q], [])∧unesc s=(if q=true then some t else none):=by
 have h:=Sl s hs;rw [IY] at h;cases hu:unesc s with
 | none=>rw [hu] at h;exact ⟨[],false,h,rfl⟩
 | some t=>rw [hu] at h;exact ⟨t,true,h,rfl⟩
def pX:Option (Nat×ae)->AV
 | some (n,t)=> .aL [.agg [.int .i64 n,.str [],.str t],.bool true]
 | none=> .aL [.agg [.int .i64 0,.str [],.str []],.bool false]
theorem On (line:ae) (hl:line.length<190000):aq cfg 182 [.str line] []=some (pX (kL unesc line), []):=by
 refine aa WQ Sm ?_;have h1:=Gc line (by omega);unfold IV at h1;unfold kL;cases hc:eO line with
 | none=>rw [hc] at h1;obtain ⟨v,b,h2,_,_⟩:=vZ line (by omega);obtain ⟨t,q,h3,_⟩:=pA [] (by simp);simp (maxSteps:=9^9) (disch:=omega) [-aaO,-aaP,-aaE,-getElem?_pos,-getElem?_neg,om,u9,h1,h2,h3,ab,pX]
 | some p=>
  obtain ⟨num,rest⟩:=p;rw [hc] at h1;obtain ⟨e1,_⟩:=gj hc;have hn:num.length<190000:=by rw [e1] at hl;simp at hl;omega
  have hr:rest.length<190000:=by rw [e1] at hl;simp at hl;omega
  obtain ⟨v,b,h2,e2,hv⟩:=vZ num (by omega);obtain ⟨t,q,h3,e3⟩:=pA rest hr;simp only [e2,e3];clear hc e1 hl e3;cases b with
  | true=>simp (maxSteps:=9^9) (disch:=omega) [-aaO,-aaP,-aaE,-getElem?_pos,-getElem?_neg,om,u9,h1,h2,h3,ab,pX]
  | false=>
   cases q with
   | false=>simp (maxSteps:=9^9) (disch:=omega) [-aaO,-aaP,-aaE,-getElem?_pos,-getElem?_neg,om,u9,h1,h2,h3,ab,pX]
   | true=>
    have hne:num≠ []:=by rintro rfl;simp [kp] at e2
    match num,hne with
    | c::num',_=>
     by_cases g1:t= []
     ·subst g1;simp (maxSteps:=9^9) (disch:=omega) [-aaO,-aaP,-aaE,-getElem?_pos,-getElem?_neg,om,u9,h1,h2,h3,ab,pX]
     by_cases g2:c=48
     ·subst g2;simp (maxSteps:=9^9) (disch:=omega) [-aaO,-aaP,-aaE,-getElem?_pos,-getElem?_neg,om,u9,h1,h2,h3,ab,pX,adu,g1,ak]
     have g2': ¬ ((c.toNat:Int)=48):=fun h=>g2 (UInt8.toNat_inj.mp (by show _=48;omega));have w1:(t== [])=false:=by simpa using g1
     have hw:IntKind.i64.wrap (v:Int)=v:=wrap_i64 (by omega) (by omega);by_cases g3:64<v
     ·simp (maxSteps:=9^9) (disch:=omega) [-aaO,-aaP,-aaE,-getElem?_pos,-getElem?_neg,om,u9,h1,h2,h3,ab,pX,adu,g1,g2,g2',g3,ak,w1,hw]
     ·simp (maxSteps:=9^9) (disch:=omega) [-aaO,-aaP,-aaE,-getElem?_pos,-getElem?_neg,om,u9,h1,h2,h3,ab,pX,adu,g1,g2,g2',g3,ak,w1,hw]
set_option maxHeartbeats 8000000
def Lu (f:Nat×ae):AV:= .agg [.int .i64 f.1,.str [],.str f.2]
theorem IZ (w:ae):p8 w [[102,111,110,100,115], [115,101,114,105,101,115], [102,105,108,101], [105,116,101,109]] 0+1=(j0 w:Int):=by
 unfold j0;have t1:jq 1= [102,111,110,100,115]:=rfl;have t2:jq 2= [115,101,114,105,101,115]:=rfl;have t3:jq 3= [102,105,108,101]:=rfl;have t4:jq 4= [105,116,101,109]:=rfl;rw [t1,t2,t3,t4];simp only [p8,beq_iff_eq]
 repeat' split
 all_goals rfl
theorem Lv (w:ae):j0 w<=4:=by
 unfold j0
 repeat' split
 all_goals omega
def gW:List (Nat×ae)->List ae->List (Nat×ae)×Bool
 | acc, []=>(acc,true)
 | acc,l::r=>match kL unesc l with
  | some (n,t)=>(match acc.getLast? with
   | some q=>if n<=q.1 then (acc,false) else gW (acc++ [(n,t)]) r
   | none=>gW (acc++ [(n,t)]) r)
  | none=>(acc,false)
theorem I0 {l:ae} {n:Nat} {t:ae} (h:kL unesc l=some (n,t)):1<=n:=by
 unfold kL at h;split at h
 ·rename_i num rest hc;split at h
  ·rename_i n' t' hp hu;split at h
   ·cases h
   ·rename_i hn;cases h;exact (Od hp (fun h0=>hn (.inr (.inl h0))) (by omega)).2
  ·cases h
 ·cases h
theorem zS: ∀(r:List ae) (acc:List (Nat×ae)),∃m,(gW acc r).1=acc++m
 | [],acc=>⟨[],by simp [gW]⟩
 | l::r,acc=>by
  unfold gW;cases kL unesc l with
  | none=>exact ⟨[],by simp⟩
  | some p=>
   obtain ⟨n,t⟩:=p;obtain ⟨m,hm⟩:=zS r (acc++ [(n,t)]);simp only;cases acc.getLast? with
   | none=>exact ⟨(n,t)::m,by simp only;rw [hm];simp⟩
   | some q=>
    simp only;split
    ·exact ⟨[],by simp⟩
    ·exact ⟨(n,t)::m,by rw [hm];simp⟩
theorem Eb: ∀(r:List ae) (acc:List (Nat×ae)),j4 unesc (match acc.getLast? with | some q=>q.1 | none=>0) r=if (gW acc r).2=true then some ((gW acc r).1.drop acc.length) else none
 | [],acc=>by simp [j4,gW]
 | l::r,acc=>by
  unfold j4 gW;cases hf:kL unesc l with
  | none=>simp
  | some p=>
   obtain ⟨n,t⟩:=p;have hp:=I0 hf;have ih:=Eb r (acc++ [(n,t)]);rw [adv] at ih;simp only at ih⊢;obtain ⟨m,hm⟩:=zS r (acc++ [(n,t)])
   have hstep:(j4 unesc n r).map ((n,t):: ·)=if (gW (acc++ [(n,t)]) r).2=true then some ((gW (acc++ [(n,t)]) r).1.drop acc.length) else none:=by rw [ih,hm];cases (gW (acc++ [(n,t)]) r).2 <;> simp
   cases hq:acc.getLast? with
   | none=>simp only;rw [if_neg (by omega)];exact hstep
   | some q=>
    simp only;by_cases hn:n<=q.1
    ·rw [if_pos hn,if_pos hn];simp
    ·rw [if_neg hn,if_neg hn];exact hstep
theorem I1 (v:ae) (hv:v.length<900000) (hl: ∀p∈splitB 10 v.dropLast,p.length<190000):
  ∃(lev:Nat) (mark title:ae) (facts:List (Nat×ae)) (b:Bool),aq cfg 133 [.str v] []=some (.aL [.agg [.int .i64 0,.int .i64 0,.int .i64 lev,.str mark,.str title,.ag none 3 (facts.map Lu)],.bool b], [])∧gK unesc v=(if b=true then some ⟨lev,title,mark,facts⟩ else none)∧(b=true->1<=lev∧lev<=4):=by
 have h1:=Lt v (by omega);unfold gK tL;by_cases hlf:v.getLast?=some 10
 case neg=>
  rw [if_neg hlf];rw [show decide (v.getLast?=some 10)=false by simpa using hlf] at h1;refine ⟨0, [], [], [],false,aa vc oJ ?_,rfl,by simp⟩;simp (maxSteps:=9^9) (disch:=omega) [-aaO,-aaP,-aaE,-getElem?_pos,-getElem?_neg,om,nw,h1,ab]
 rw [if_pos hlf];rw [show decide (v.getLast?=some 10)=true by simpa using hlf] at h1
 obtain ⟨u,rfl⟩: ∃u,v=u++ [10]:=by
  rcases adt v with rfl | ⟨u,x,rfl⟩
  ·simp at hlf
  ·rw [ado] at hlf⊢;simp at hlf;exact ⟨u,by rw [hlf]⟩
 rw [List.dropLast_concat] at hl⊢;have hul:u.length<900000:=by simp at hv;omega
 have h2:=IW u hul;have h3:=IX u 10 (by omega)
 have hPl:(splitB 10 u).length<1000000:=by have h:=jo 10 u;have h2:u.count 10<=u.length:=adp;omega
 generalize splitB 10 u=P at*
 generalize u++ [10]=v at*
 clear hlf hv hul
 match P,hl,hPl with
 | [],_,_=>refine ⟨0, [], [], [],false,aa vc oJ ?_,rfl,by simp⟩;simp (maxSteps:=9^9) (disch:=omega) [-aaO,-aaP,-aaE,-getElem?_pos,-getElem?_neg,om,nw,h1,h2,h3,ab]
 | [a],_,_=>refine ⟨0, [], [], [],false,aa vc oJ ?_,rfl,by simp⟩;simp (maxSteps:=9^9) (disch:=omega) [-aaO,-aaP,-aaE,-getElem?_pos,-getElem?_neg,om,nw,h1,h2,h3,ab]
 | a::b::r,hl,hPl=>
  have ha:=hl a (by simp);have hb:=hl b (by simp);have c1:=Gc a (by omega);have c2:=Gc b (by omega);unfold IV at c1 c2
  have htag: ∀w nl,aq cfg 89 [.ag nl 1 [.str [102,111,110,100,115],.str [115,101,114,105,101,115],.str [102,105,108,101],.str [105,116,101,109]],.str w] []=some (.int .i64 ((j0 w:Int)-1), []):=fun w nl=>by
   have h:=lA nl 1 [[102,111,110,100,115], [115,101,114,105,101,115], [102,105,108,101], [105,116,101,109]] (fun _=>rfl) (by simp) w;have e:=IZ w;rw [show p8 w [[102,111,110,100,115], [115,101,114,105,101,115], [102,105,108,101], [105,116,101,109]] 0=(j0 w:Int)-1 by omega] at h;exact h
  have ht4:=Lv;cases hca:eO a with
  | none=>
   obtain ⟨t0,q0,u0,_⟩:=pA [] (by simp);have hd:uX unesc a=none:=by unfold uX;rw [hca]
   refine ⟨j0 a, [], [], [],false,aa vc oJ ?_,by simp [oE,hd],by simp⟩;rw [hca] at c1;simp only at c1;have hT:=htag a;have hT4:=ht4 a;clear htag ht4 c2 hd;generalize j0 a=T at*
   simp (maxSteps:=9^9) (disch:=omega) [-aaO,-aaP,-aaE,-getElem?_pos,-getElem?_neg,om,nw,h1,h2,h3,c1,hT,u0,eR,cH,ab]
  | some p=>
   obtain ⟨w,ra⟩:=p;rw [hca] at c1;simp only at c1;obtain ⟨e1,_⟩:=gj hca;have hra:ra.length<190000:=by rw [e1] at ha;simp at ha;omega
   obtain ⟨t,q,u1,u2⟩:=pA ra hra
   have hd:uX unesc a=if q=true∧j0 w≠0∧t≠ [] then some (j0 w,t) else none:=by
    unfold uX;rw [hca];simp only [u2];cases q with
    | false=>simp
    | true=>
     simp only [if_true];by_cases g1:j0 w=0
     ·simp [g1]
     ·by_cases g2:t= []
      ·simp [g2]
      ·simp [g1,g2]
   have hT:=htag w;have hT4:=ht4 w;clear htag ht4 hca e1 u2;generalize j0 w=T at*
   by_cases g:q=true∧T≠0∧t≠ []
   case neg=>
    rw [if_neg g] at hd;refine ⟨T, [], [], [],false,aa vc oJ ?_,by simp [oE,hd],by simp⟩;clear c2 hd;cases q with
    | false=>simp (maxSteps:=9^9) (disch:=omega) [-aaO,-aaP,-aaE,-getElem?_pos,-getElem?_neg,om,nw,h1,h2,h3,c1,hT,u1,eR,cH,ab]
    | true=>
     by_cases g1:T=0
     ·subst g1;simp (maxSteps:=9^9) (disch:=omega) [-aaO,-aaP,-aaE,-getElem?_pos,-getElem?_neg,om,nw,h1,h2,h3,c1,hT,u1,eR,cH,ab]
     ·have g2:t= []:=by
       by_cases g2:t= []
       ·exact g2
       ·exact absurd ⟨rfl,g1,g2⟩ g
      subst g2;simp (maxSteps:=9^9) (disch:=omega) [-aaO,-aaP,-aaE,-getElem?_pos,-getElem?_neg,om,nw,h1,h2,h3,c1,hT,u1,g1,eR,cH,ab]
   rw [if_pos g] at hd;obtain ⟨rfl,g1,g2⟩:=g;cases hcb:eO b with
   | none=>
    obtain ⟨t0,q0,u0,_⟩:=pA [] (by simp);have hm:uY unesc b=none:=by unfold uY;rw [hcb]
    rw [hcb] at c2;simp only at c2;refine ⟨T,t0,t, [],false,aa vc oJ ?_,by simp [oE,hd,hm],by simp⟩;clear hd hm hcb;simp (maxSteps:=9^9) (disch:=omega) [-aaO,-aaP,-aaE,-getElem?_pos,-getElem?_neg,om,nw,h1,h2,h3,c1,c2,hT,u1,u0,g1,g2,eR,cH,ab]
   | some p=>
    obtain ⟨w2,rb⟩:=p;rw [hcb] at c2;simp only at c2;obtain ⟨e1,_⟩:=gj hcb;have hrb:rb.length<190000:=by rw [e1] at hb;simp at hb;omega
    obtain ⟨m,q2,v1,v2⟩:=pA rb hrb
    have hm:uY unesc b=if q2=true∧w2=oD then some m else none:=by
     unfold uY;rw [hcb];simp only [v2];by_cases g3:w2=oD
     ·cases q2 <;> simp [g3]
     ·simp [g3]
    clear hcb e1 v2;by_cases g:q2=true∧w2=oD
    case neg=>
     rw [if_neg g] at hm;refine ⟨T,m,t, [],false,aa vc oJ ?_,by simp [oE,hd,hm],by simp⟩;clear hd hm;cases q2 with
     | false=>simp (maxSteps:=9^9) (disch:=omega) [-aaO,-aaP,-aaE,-getElem?_pos,-getElem?_neg,om,nw,h1,h2,h3,c1,c2,hT,u1,v1,g1,g2,eR,cH,ab]
     | true=>
      have g4: ¬ w2= [109,97,114,107]:=fun h=>g ⟨rfl,h⟩;have g5:(w2 != [109,97,114,107])=true:=by simpa using g4
      simp (maxSteps:=9^9) (disch:=omega) [-aaO,-aaP,-aaE,-getElem?_pos,-getElem?_neg,om,nw,h1,h2,h3,c1,c2,hT,u1,v1,g1,g2,g4,g5,eR,cH,ab]
    rw [if_pos g] at hm;obtain ⟨rfl,rfl⟩:=g;have hfr: ∀p∈r,p.length<190000:=fun p hp=>hl p (by simp [hp]);have hls:(aA (a::b::r)).length=r.length+2:=by simp
    have hdr:(aA (a::b::r)).drop 2=aA r:=rfl;have hT1:1<=T:=by omega
    suffices H: ∃(facts:List (Nat×ae)) (ok:Bool),aq cfg 133 [.str v] []=some (.aL [.agg [.int .i64 0,.int .i64 0,.int .i64 T,.str m,.str t,.ag none 3 (facts.map Lu)],.bool ok], [])∧j4 unesc 0 r=if ok=true then some facts else none by
     obtain ⟨facts,ok,k1,k2⟩:=H;refine ⟨T,m,t,facts,ok,k1,?_,fun _=>⟨hT1,hT4⟩⟩;simp only [oE,hd,hm,k2];cases ok <;> rfl
    clear hd hm;have hbr:r.length<1000000:=by simp at hPl;omega
    rw [show oD= [109,97,114,107] from rfl] at c2;clear ha hb hl hra hrb;have hgi:=Eb r [];refine ⟨(gW [] r).1,(gW [] r).2,aa vc oJ ?_,by simpa using hgi⟩;clear hgi;have hE: ∀k (h:k<r.length),(aA r)[k]?=some (.str r[k]):=fun k h=>by simp [aA,h]
    have hrl:=ly r;generalize hG:gW [] r=G at*
    simp (maxSteps:=9^9) (disch:=omega) [-aaO,-aaP,-aaE,-getElem?_pos,-getElem?_neg,om,nw,h1,h2,h3,c1,c2,hT,u1,v1,g1,g2,hls,hdr,eR,cH,ab];clear h1 h2 h3 c1 c2 hT u1 v1 hls hdr
    refine Wp.aP (fun (a:Nat×List (Nat×ae))=>r.length-a.1) (fun a=> [none,some (.ptr 0 0),none,some (.ptr 2 0),none,none,none,none,none,none,none,none,none,none,none,none,none,none,none,none,none,none,none,none,none,none,none,none,none,some (.ag none 1 (aA r)),some (.int .i64 r.length),some (.int .i64 a.1),none,none,none,none,none,none]) (fun a=> [.var 74 [.int .i64 0,.int .i64 0,.int .i64 0,.str [],.str [],.ax 1 0],.sl ⟨false,some 76,none⟩ 3 [],.var 74 [.int .i64 0,.int .i64 0,.int .i64 T,.str m,.str t,.ax 3 a.2.length],.sl ⟨false,some 76,none⟩ 3 (a.2.map Lu),.sl ⟨false,some 9,none⟩ 1 [.str [102,111,110,100,115],.str [115,101,114,105,101,115],.str [102,105,108,101],.str [105,116,101,109]]])
     (fun a=>G=gW a.2 (r.drop a.1)∧a.1<=r.length∧a.2.length<=a.1) ?_ (0, []) ⟨by simpa using hG.symm,by simp,by simp⟩ (by simp [aA];exact ade (by simp)) (by simp)
    rintro ⟨i,acc⟩ ⟨hi,hil,hal⟩;simp only at hi hil hal⊢;rw [hi];clear hi hG;by_cases q1:i<r.length
    ·have hg:=hE i q1;have hfa:=On r[i] (hfr _ (List.getElem_mem q1));rw [List.drop_eq_getElem_cons q1];simp only [gW];have hml:(acc.map Lu).length=acc.length:=by simp
     generalize r[i]=line at*
     clear hE hfr;cases hf:kL unesc line with
     | none=>rw [hf] at hfa;unfold pX at hfa;simp only at hfa⊢;simp (maxSteps:=9^9) (disch:=omega) [-aaO,-aaP,-aaE,-getElem?_pos,-getElem?_neg,om,q1,hg,hfa,ab,hml,hrl]
     | some p=>
      obtain ⟨n,x⟩:=p;rw [hf] at hfa;unfold pX at hfa;simp only at hfa⊢;rcases adt acc with rfl | ⟨acc',q,rfl⟩
      ·simp only [List.getLast?_nil];simp (maxSteps:=9^9) (disch:=omega) [-aaO,-aaP,-aaE,-getElem?_pos,-getElem?_neg,om,q1,hg,hfa,ab,hrl];exact ⟨i+1, [(n,x)],⟨rfl,by omega,by simp⟩,by omega,by simp,by simp,by simp [Lu]⟩
      ·rw [ado] at*
       rw [adv];simp only;have hgl:((acc'++ [q]).map Lu)[acc'.length]?=some (.agg [.int .i64 q.1,.str [],.str q.2]):=by simp [Lu]
       have hl2:(acc'++ [q]).length=acc'.length+1:=by simp
       have e1:((acc'.length:Int)+1-1).toNat=acc'.length:=by omega
       have e2:(0:Int)<(acc'.length:Int)+1:=by omega
       rw [hl2] at hml hal;generalize hac:acc'++ [q]=acc at*
       by_cases q2:n<=q.1
       ·rw [if_pos q2];simp (maxSteps:=9^9) (disch:=omega) [-aaO,-aaP,-aaE,-getElem?_pos,-getElem?_neg,om,q1,hg,hfa,ab,hml,hrl,hl2,hgl,e1,e2,q2]
       ·rw [if_neg q2];simp (maxSteps:=9^9) (disch:=omega) [-aaO,-aaP,-aaE,-getElem?_pos,-getElem?_neg,om,q1,hg,hfa,ab,hml,hrl,hl2,hgl,e1,e2,q2];exact ⟨i+1,acc++ [(n,x)],⟨rfl,by omega,by simp;omega⟩,by omega,by simp,by simp;omega,by simp [Lu]⟩
    ·rw [List.drop_eq_nil_of_le (by omega)];simp (maxSteps:=9^9) (disch:=omega) [-aaO,-aaP,-aaE,-getElem?_pos,-getElem?_neg,om,q1,gW,ab,hrl]
end Go.Proofs.YtfgbpngakkhdcaaGreatDoor
