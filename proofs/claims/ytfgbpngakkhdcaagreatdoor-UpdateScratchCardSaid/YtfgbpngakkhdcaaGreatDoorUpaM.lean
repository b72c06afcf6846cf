/- Kept finding aids as the machine's values. -/
import Derived.Test.YtfgbpngakkhdcaaGreatDoorLsM
open Bool renaming eq_iff_iff->abC,false_and->abD,false_eq_true->aav,true_and->adH
open List renaming drop_eq_getElem_cons->aaB,drop_eq_nil_of_le->aaC,find?_cons->ac0,find?_some->ac2,getD_eq_getElem?_getD->aaE,getElem_mem->aa8,length_take->abc,map_append->aaL,map_map->ab2,map_replicate->aaO,map_set->aaP,mem_of_find?_eq_some->ac7,mem_range->abl,mem_singleton->adl,nodup_append->aaT,take_add_one->adQ,take_length->adn,take_succ_eq_append_getElem->adL
set_option linter.all false
namespace Go.Proofs.YtfgbpngakkhdcaaGreatDoor
open Go.Am Go.ChangeShapes Go.WideShapes Go.RowKit
set_option maxRecDepth 10000
set_option maxHeartbeats 4000000
structure Me where
 c:Mm
 rn:Option Bool
 rz:Nat
 nn:Option Bool
 nz:Nat
def dT (m:Me):AV:= .agg [.ag m.rn m.rz (aN m.c.1),.int .i64 m.c.2.unit,.str m.c.2.num,.ag m.nn m.nz (m.c.2.nodes.map dO)]
structure Me.ok (m:Me):Prop where
 rz:m.c.1≠ []->m.rz=3
 nz:m.c.2.nodes≠ []->m.nz=3
 rl:m.c.1.length<1000000
 nl:m.c.2.nodes.length<1000000
structure Me.yC (m:Me):Prop where
 rz:m.c.1≠ []->m.rz=3
 nz:m.c.2.nodes≠ []->m.nz=3
 rl:m.c.1.length<=maxLen
 nl:m.c.2.nodes.length<=maxLen
structure Kp where
 unit:Int
 lang:ae
 cO:List Me
 mn:Option Bool
 mz:Nat
def Kp.cs (k:Kp):List Mm:=k.cO.map Me.c
def HH (k:Kp):List AV:= [.int .i64 k.unit,.str k.lang,.ag k.mn k.mz (k.cO.map dT)]
def uf (k:Kp):AV:= .agg (HH k)
structure Kp.ok (k:Kp):Prop where
 mz:k.cO≠ []->k.mz=4
 ml:k.cO.length<1000000
 me: ∀m∈k.cO,m.ok
structure Kp.yC (k:Kp):Prop where
 mz:k.cO≠ []->k.mz=4
 ml:k.cO.length<=maxLen
 ll:k.lang.length<=maxLen
 me: ∀m∈k.cO,m.yC
@[simp] theorem cb: ∀(l:List Me),ai (l.map dT)=true
 | []=>rfl
 | x::r=>by simp [ai,dT,AV.plain,cb r,aO,aK]
open Go.Am
set_option maxHeartbeats 8000000
theorem Jm (r:Cell×ae):aq cfg 111 [.agg [.int .i64 r.1.1,.int .i64 r.1.2,.str r.2]] []=some (.agg [.int .i64 r.1.1,.int .i64 r.1.2,.str r.2], []):=by refine aa XP S7 ?_;simp (maxSteps:=9^9) (disch:=omega) [-aaO,-aaP,-aaE,-getElem?_pos,-getElem?_neg,om,Qb,ab]
theorem Jn (r:Nd):aq cfg 100 [.agg [.int .i64 r.depth,.str r.tag,.str r.text]] []=some (.agg [.int .i64 r.depth,.str r.tag,.str r.text], []):=by refine aa XL S8 ?_;simp (maxSteps:=9^9) (disch:=omega) [-aaO,-aaP,-aaE,-getElem?_pos,-getElem?_neg,om,Qc,ab]
theorem Jo (nl:Option Bool) (z:Nat) (l:List (Cell×ae)) (hz:l≠ []->z=3) (hl:l.length<1000000):aq cfg 110 [.ag nl z (aN l),.fn 111 [] []] []=some (.ag none 3 (aN l), []):=by
 refine aa XO S9 ?_;have hE: ∀k (h:k<l.length),(aN l)[k]?=some (.agg [.int .i64 l[k].1.1,.int .i64 l[k].1.2,.str l[k].2]):=fun k h=>get_map _ _ h;have hEl:(aN l).length=l.length:=by simp [aN]
 have hpl:=aO l;generalize aN l=E at*
 have w:=Jm;simp (maxSteps:=9^9) (disch:=omega) [-aaO,-aaP,-aaE,-getElem?_pos,-getElem?_neg,om,Qd,hEl];refine Wp.aP (fun (i:Nat)=>l.length-i) (fun i=> [none,some (.fn 111 [] []),none,some (.ax 0 i),none,some (.ag nl z E),some (.int .i64 l.length),some (.int .i64 i),none,none,none,none,none]) (fun i=> [.sl ⟨false,some 99,none⟩ 3 (E.take i)]) (fun i=>i<=l.length) ?_ 0 (by omega) (by simp) (by simp);rintro i hil;have hci:(E.take i).length=i:=by rw [abc];omega
 by_cases h1:i<l.length
 ·have hg:=hE i h1;obtain rfl:=hz (ne_of_lt h1)
  have ht:E.take (i+1)=E.take i++ [.agg [.int .i64 l[i].1.1,.int .i64 l[i].1.2,.str l[i].2]]:=by rw [adQ,hg];rfl
  have w1:=w l[i];clear hE w;generalize l[i]=r at*
  generalize E.take i=EI at*
  simp (maxSteps:=9^9) (disch:=omega) [-aaO,-aaP,-aaE,-getElem?_pos,-getElem?_neg,om,h1,hg,hEl,hci,ab,w1];exact ⟨i+1,by omega,by omega,by simp,by rw [ht]⟩
 ·obtain rfl:i=l.length:=by omega
  rw [show E.take l.length=E by rw [<-hEl,adn]] at hci⊢;simp (maxSteps:=9^9) (disch:=omega) [-aaO,-aaP,-aaE,-getElem?_pos,-getElem?_neg,om,h1,hEl,hpl]
theorem Jp (nl:Option Bool) (z:Nat) (l:List Nd) (hz:l≠ []->z=3) (hl:l.length<1000000):aq cfg 99 [.ag nl z (l.map dO),.fn 100 [] []] []=some (.ag none 3 (l.map dO), []):=by
 refine aa aas Yb ?_;have hE: ∀k (h:k<l.length),(l.map dO)[k]?=some (.agg [.int .i64 l[k].depth,.str l[k].tag,.str l[k].text]):=fun k h=>get_map _ _ h;have hEl:(l.map dO).length=l.length:=by simp
 have hpl:=aK l;generalize l.map dO=E at*
 have w:=Jn;simp (maxSteps:=9^9) (disch:=omega) [-aaO,-aaP,-aaE,-getElem?_pos,-getElem?_neg,om,Yc,hEl];refine Wp.aP (fun (i:Nat)=>l.length-i) (fun i=> [none,some (.fn 100 [] []),none,some (.ax 0 i),none,some (.ag nl z E),some (.int .i64 l.length),some (.int .i64 i),none,none,none,none,none]) (fun i=> [.sl ⟨false,some 129,none⟩ 3 (E.take i)]) (fun i=>i<=l.length) ?_ 0 (by omega) (by simp) (by simp);rintro i hil;have hci:(E.take i).length=i:=by rw [abc];omega
 by_cases h1:i<l.length
 ·have hg:=hE i h1;obtain rfl:=hz (ne_of_lt h1)
  have ht:E.take (i+1)=E.take i++ [.agg [.int .i64 l[i].depth,.str l[i].tag,.str l[i].text]]:=by rw [adQ,hg];rfl
  have w1:=w l[i];clear hE w;generalize l[i]=r at*
  generalize E.take i=EI at*
  simp (maxSteps:=9^9) (disch:=omega) [-aaO,-aaP,-aaE,-getElem?_pos,-getElem?_neg,om,h1,hg,hEl,hci,ab,w1];exact ⟨i+1,by omega,by omega,by simp,by rw [ht]⟩
 ·obtain rfl:i=l.length:=by omega
  rw [show E.take l.length=E by rw [<-hEl,adn]] at hci⊢;simp (maxSteps:=9^9) (disch:=omega) [-aaO,-aaP,-aaE,-getElem?_pos,-getElem?_neg,om,h1,hEl,hpl]
def OW (nl:Option Bool) (z:Nat) (s:mm):AV:= .agg [.int .i64 s.unit,.str s.num,.ag nl z (s.nodes.map dO)]
theorem vg (nl:Option Bool) (z:Nat) (s:mm) (hz:s.nodes≠ []->z=3) (hl:s.nodes.length<1000000):aq cfg 53 [OW nl z s] []=some (du s, []):=by
 refine aa aam Yd ?_;have w:=Jp nl z s.nodes hz hl;have hpl:=aK s.nodes;unfold OW du;generalize s.nodes.map dO=E at*
 simp (maxSteps:=9^9) (disch:=omega) [-aaO,-aaP,-aaE,-getElem?_pos,-getElem?_neg,om,Ye,w,ab,hpl]
def Me.cp (m:Me):Me:=⟨m.c,none,3,none,3⟩
theorem O2 (m:Me) (hm:m.ok):aq cfg 65 [dT m] []=some (dT m.cp, []):=by
 refine aa aap Yf ?_;have w1:=Jo m.rn m.rz m.c.1 hm.rz hm.rl;have w2:=vg m.nn m.nz m.c.2 hm.nz hm.nl;have hp1:=aO m.c.1;have hp2:=aK m.c.2.nodes;unfold OW du at w2;unfold dT Me.cp;simp only;generalize m.c.2.nodes.map dO=E at*
 generalize aN m.c.1=R at*
 simp (maxSteps:=9^9) (disch:=omega) [-aaO,-aaP,-aaE,-getElem?_pos,-getElem?_neg,om,Yg,w1,w2,ab,hp1,hp2]
theorem Ta (nl nl':Option Bool) (z z':Nat) (l m:List Nd) (hz:l≠ []->z=3) (hz':m≠ []->z'=3) (hl:l.length<1000000) (hm:m.length<1000000):aq cfg 136 [.ag nl z (l.map dO),.ag nl' z' (m.map dO)] []=some (.bool (decide (l=m)), []):=by
 refine aa XQ Tb ?_;have hE: ∀k (h:k<l.length),(l.map dO)[k]?=some (.agg [.int .i64 l[k].depth,.str l[k].tag,.str l[k].text]):=fun k h=>get_map _ _ h;have hE': ∀k (h:k<m.length),(m.map dO)[k]?=some (.agg [.int .i64 m[k].depth,.str m[k].tag,.str m[k].text]):=fun k h=>get_map _ _ h;have hEl:(l.map dO).length=l.length:=by simp
 have hEm:(m.map dO).length=m.length:=by simp
 generalize l.map dO=E at*
 generalize m.map dO=E' at*
 by_cases hlm:l.length=m.length
 case neg=>
  have h2:((l.length:Int) !=(m.length:Int))=true:=by rw [bne_iff_ne];omega
  have h3: ¬ l=m:=fun h=>hlm (by rw [h]);simp (maxSteps:=9^9) (disch:=omega) [-aaO,-aaP,-aaE,-getElem?_pos,-getElem?_neg,om,Mt,hEl,hEm,h2,h3]
 have h2:((l.length:Int) !=(m.length:Int))=false:=by rw [bne_eq_false_iff_eq];omega
 simp (maxSteps:=9^9) (disch:=omega) [-aaO,-aaP,-aaE,-getElem?_pos,-getElem?_neg,om,Mt,hEl,hEm,h2];refine Wp.aP (fun (i:Nat)=>l.length-i) (fun i=> [some (.ag nl z E),some (.ag nl' z' E'),none,none,none,some (.int .i64 l.length),some (.int .i64 i),none,none]) (fun _=> []) (fun i=>(l=m↔l.drop i=m.drop i)∧i<=l.length) ?_ 0 ⟨by simp,by omega⟩ (by simp) rfl;rintro i ⟨hi,hil⟩;by_cases h1:i<l.length
 ·have h1':i<m.length:=by omega
  have hg:=hE i h1;have hg':=hE' i h1';obtain rfl:=hz (ne_of_lt h1);obtain rfl:=hz' (ne_of_lt h1');rw [aaB h1,aaB h1',List.cons.injEq] at hi;clear hE hE';generalize l[i]=r at*
  generalize m[i]=r' at*
  obtain ⟨r1,r2,t⟩:=r;obtain ⟨r1',r2',t'⟩:=r';simp only at hg hg';simp (maxSteps:=9^9) (disch:=omega) [-aaO,-aaP,-aaE,-getElem?_pos,-getElem?_neg,om,h1,h1',hg,hg',hEl,hEm];split
  ·rename_i q;intro e;obtain ⟨e1,_⟩:=hi.1 e;simp only [Nd.mk.injEq] at e1;obtain ⟨e2,e3,e4⟩:=e1;simp [e2,e3,e4] at q
  ·rename_i q;obtain ⟨rfl,rfl,rfl⟩:r1=r1'∧r2=r2'∧t=t':=by simpa using q
   exact ⟨i+1,⟨by rw [hi];simp,by omega⟩,by omega,by simp⟩
 ·rw [aaC (by omega),aaC (by omega)] at hi;have hi2:l=m:=hi.2 rfl;simp (maxSteps:=9^9) (disch:=omega) [-aaO,-aaP,-aaE,-getElem?_pos,-getElem?_neg,om,h1,hEl,hEm,hi2]
theorem Mu (nl nl':Option Bool) (z z':Nat) (s t:mm) (hz:s.nodes≠ []->z=3) (hz':t.nodes≠ []->z'=3) (hl:s.nodes.length<1000000) (hm:t.nodes.length<1000000):aq cfg 77 [OW nl z s,OW nl' z' t] []=some (.bool (decide (s=t)), []):=by
 refine aa aaq Yh ?_;have w:=Ta nl nl' z z' s.nodes t.nodes hz hz' hl hm
 have hd:decide (s=t)=(decide (s.unit=t.unit)&&(decide (s.num=t.num)&&decide (s.nodes=t.nodes))):=by rw [abC];simp only [decide_eq_true_eq,Bool.and_eq_true];cases s;cases t;simp
 rw [hd];have hp1:=aK s.nodes;have hp2:=aK t.nodes;unfold OW;generalize decide (s.nodes=t.nodes)=q at*
 generalize s.nodes.map dO=E at*
 generalize t.nodes.map dO=E' at*
 by_cases h1:s.unit=t.unit
 ·by_cases h2:s.num=t.num
  ·simp (maxSteps:=9^9) (disch:=omega) [-aaO,-aaP,-aaE,-getElem?_pos,-getElem?_neg,om,O3,w,h1,h2,hp1,hp2]
  ·have b2:(s.num==t.num)=false:=by simpa using h2
   simp (maxSteps:=9^9) (disch:=omega) [-aaO,-aaP,-aaE,-getElem?_pos,-getElem?_neg,om,O3,w,h1,h2,b2,hp1,hp2]
 ·have b1:(s.unit==t.unit)=false:=by simpa using h1
  simp (maxSteps:=9^9) (disch:=omega) [-aaO,-aaP,-aaE,-getElem?_pos,-getElem?_neg,om,O3,w,h1,b1,hp1,hp2]
set_option maxHeartbeats 4000000
def bA (_:Unit):AV:= .bool true
theorem Yi {bs:List ad} {k clock:Nat} {m:List (Int×Unit×Nat)} (h:ad.at bs k= .mp (m.map (ej bA)) clock) (u:Int):bU cfg (cfg.ti 86) (.bT k) (.int .i64 u) false bs=some (.bool (cw (bq m) u).isSome,.none):=by
 have hf:=ji bA u m 0;have hl:=jE u m 0;rw [<-hl];cases hq:fw u m 0 with
 | none=>rw [hq] at hf;simp [bU,dq,iZ,jF,bH,h,hf,-bh]
 | some p=>rw [hq] at hf;simp [bU,dq,iZ,jF,bH,h,hf,-bh,ej,bA]
theorem aau {bs:List ad} {k clock:Nat} {m:List (Int×Unit×Nat)} (h:ad.at bs k= .mp (m.map (ej bA)) clock) (u:Int):ay cfg (cfg.ti 86) (.bT k) (.int .i64 u) (.bool true) bs=some (.aL [],.gQ k (.mp ((kW m clock u ()).map (ej bA)) (gv m clock u))):=by
 have hf:=ji bA u m 0;unfold kW gv;cases hq:fw u m 0 with
 | none=>rw [hq] at hf;simp [ay,bH,fI,eY,gb,h,hf,-bh,ej,bA]
 | some p=>obtain ⟨j,e⟩:=p;obtain ⟨_,_,he⟩:=gZ u m 0 j e hq;rw [hq] at hf;simp [ay,bH,fI,eY,gb,h,hf,-bh,ej,bA,sameKey,gp,he,ko,-aaP]
def me0:AV:= .agg [.ag (some true) 0 [],.int .i64 0,.str [],.ag (some true) 0 []]
def Yj (m:List (Int×Me)) (u:Int):AV:=match cw m u with
 | some v=> .aL [dT v,.bool true]
 | none=> .aL [me0,.bool false]
theorem l8 (m:Me):(dT m).plain=true:=by simp [dT,AV.plain,ai,aO,aK]
theorem Yk {bs:List ad} {k clock:Nat} {m:List (Int×Me×Nat)} (h:ad.at bs k= .mp (m.map (ej dT)) clock) (u:Int):bU cfg (cfg.ti 110) (.bT k) (.int .i64 u) true bs=some (Yj (bq m) u,.none):=by
 have hf:=ji dT u m 0;have hl:=jE u m 0;unfold Yj;rw [<-hl];cases hq:fw u m 0 with
 | none=>rw [hq] at hf;simp [bU,dq,iZ,jF,bH,h,hf,-bh,me0]
 | some p=>rw [hq] at hf;simp [bU,dq,iZ,jF,bH,h,hf,-bh,ej]
theorem aaw {bs:List ad} {k clock:Nat} {m:List (Int×Me×Nat)} (h:ad.at bs k= .mp (m.map (ej dT)) clock) (u:Int) (v:Me):ay cfg (cfg.ti 110) (.bT k) (.int .i64 u) (dT v) bs=some (.aL [],.gQ k (.mp ((kW m clock u v).map (ej dT)) (gv m clock u))):=by
 have hf:=ji dT u m 0;have hp:=l8 v;unfold dT at hp;unfold kW gv;cases hq:fw u m 0 with
 | none=>rw [hq] at hf;simp [ay,bH,fI,eY,gb,h,hf,-bh,ej,dT,hp]
 | some p=>obtain ⟨j,e⟩:=p;obtain ⟨_,_,he⟩:=gZ u m 0 j e hq;rw [hq] at hf;simp [ay,bH,fI,eY,gb,h,hf,-bh,ej,dT,hp,sameKey,gp,he,ko,-aaP]
def Ey (l:List Me):List (Int×Me):=l.foldl (fun a m=>iY a m.c.2.unit m) []
def pZ (l:List Me) (u:Int):Option Me:=l.find? fun m=>decide (m.c.2.unit=u)
theorem Ab (l:List Me) (m:Me):Ey (l++ [m])=iY (Ey l) m.c.2.unit m:=by simp [Ey]
theorem Ac {α:Type} (p:α->Bool): ∀(l:List α) (x:α),(l++ [x]).find? p=(l.find? p).or (if p x=true then some x else none)
 | [],x=>by
  show ([x]:List _).find? p=_;rw [ac0];cases p x <;> rfl
 | y::l,x=>by
  rw [List.cons_append,ac0,ac0,Ac p l x];cases p y <;> rfl
theorem Ad: ∀(n:Nat) (l:List Me),l.length=n->(l.map fun m=>m.c.2.unit).Nodup-> ∀u,cw (Ey l) u=pZ l u
 | 0,l,hl,_,u=>by
  obtain rfl:=List.length_eq_zero_iff.1 hl;rfl
 | n+1,l,hl,hn,u=>by
  obtain ⟨r,x,rfl⟩: ∃r x,l=r++ [x]:=⟨l.dropLast,l.getLast (by intro h;rw [h] at hl;simp at hl),(List.dropLast_concat_getLast _).symm⟩;rw [aaL,aaT] at hn;obtain ⟨h1,_,h3⟩:=hn;have ih:=Ad n r (by simpa using hl) h1 u;unfold pZ at ih⊢;rw [Ab,fJ,ih,Ac];by_cases hx:x.c.2.unit=u
  ·rw [if_pos hx,if_pos (by simpa using hx)];cases hf:r.find? (fun m=>decide (m.c.2.unit=u)) with
   | none=>rfl
   | some y=>exfalso;have h5:=ac7 hf;have h6:=ac2 hf;simp only [decide_eq_true_eq] at h6;exact h3 y.c.2.unit (List.mem_map.2 ⟨y,h5,rfl⟩) x.c.2.unit (by simp) (by rw [h6,hx])
  ·rw [if_neg hx,if_neg (by simpa using hx)];cases r.find? (fun m=>decide (m.c.2.unit=u)) <;> rfl
theorem O4 (l:List Me) (u:Int):(pZ l u).map Me.c=gO (l.map Me.c) u:=by
 unfold pZ gO
 induction l with
 | nil=>rfl
 | cons x r ih=>rw [List.map_cons,ac0,ac0];cases decide (x.c.2.unit=u) <;> simp [ih]
set_option maxHeartbeats 8000000
def gX (c:Mm):AV:= .agg [.ag none 3 (aN c.1),.int .i64 c.2.unit,.str c.2.num,.ag none 3 (c.2.nodes.map dO)]
@[simp] theorem cG: ∀(l:List Mm),ai (l.map gX)=true
 | []=>rfl
 | x::r=>by simp [ai,gX,AV.plain,cG r,aO,aK]
def Jg:AV:= .agg [.int .i64 0,.str [],.ag (some true) 0 []]
def yf (unit:Int) (lang:ae) (l:List Mm):AV:= .agg [.int .i64 unit,.str lang,.ag none 4 (l.map gX)]
def cI (l:List Int):List AV:=l.map (.int .i64)
@[simp] theorem dB: ∀l:List Int,ai (cI l)=true
 | []=>rfl
 | x::r=>by simp [cI,ai,AV.plain];exact dB r
theorem Ew (c:Ct) (hc:c.ok) (k:Kp) (hk:k.ok) (h:aH c k.unit k.lang≠0):aq cfg 35 [uf k,b8 c] []=some (.aL [Jg,.ag (some true) 0 [],.int .i64 (aH c k.unit k.lang)], []):=by
 refine aa XK Qe ?_;have w:=mq c hc k.unit k.lang;rw [if_neg h] at w;have h2:(aH c k.unit k.lang !=0)=true:=by simpa using h
 have hp:=cb k.cO;unfold b8 eV uf HH Jg M6 at*
 generalize aA c.af=L1 at*
 generalize c.aD.map fD=L2 at*
 generalize c.ao.map cj=L3 at*
 generalize k.cO.map dT=KM at*
 generalize aH c k.unit k.lang=e at*
 simp (maxSteps:=9^9) (disch:=omega) [-aaO,-aaP,-aaE,-getElem?_pos,-getElem?_neg,om,Tc,w,h,h2,hp,ab]
theorem Yl (n:Nat) (e:Int×Me×Nat):cK n (ej dT e)=ej dT e:=by simp [cK,ej,dT,forget,AV.under,ar]
theorem ug (n:Nat):cK n∘ej dT=ej dT:=by funext e;exact Yl n e
theorem uh (n:Nat) (m:List (Int×Me×Nat)):db n (m.map (ej dT))=true:=by
 induction m with
 | nil=>rfl
 | cons e r ih=>simp [db,ej,dT,AV.under,ar] at ih⊢;try exact ih
theorem Gv (m:Me):dT m= .agg [.ag m.rn m.rz (aN m.c.1),.int .i64 m.c.2.unit,.str m.c.2.num,.ag m.nn m.nz (m.c.2.nodes.map dO)]:=rfl
theorem Mv {l:List Me} (hn:(l.map fun m=>m.c.2.unit).Nodup) (u:Int):cw (Ey l) u=pZ l u:=Ad l.length l rfl hn u
theorem Jq {l:List Me} {i:Nat} (h:i<l.length):Ey (l.take (i+1))=iY (Ey (l.take i)) l[i].c.2.unit l[i]:=by rw [adL h,Ab]
theorem Ev (c:Ct) (hc:c.ok) (k:Kp) (hk:k.ok) (hn:(dL k.cs).Nodup) (h:aH c k.unit k.lang=0):aq cfg 35 [uf k,b8 c] []=
  some (.aL [yf k.unit k.lang (aG Lib.itoa esc c k.unit k.lang k.cs),.ag none 1 (cI (fC Lib.itoa esc c k.unit k.lang k.cs)),.int .i64 0], []):=by
 refine aa XK Qe ?_;have w:=mq c hc k.unit k.lang;rw [if_pos h,h] at w;obtain ⟨ku,kl,km,mn,mz⟩:=k;have hmz:=hk.mz;have hml:=hk.ml;have hme:=hk.me;unfold Kp.cs at*
 simp only at w h hn hmz hml hme⊢;obtain ⟨S,hS⟩: ∃S,S=eh Lib.itoa c ku kl:=⟨_,rfl⟩;have hrd: ∀s∈S,aq cfg 66 [b8 c,.int .i64 ku,.str kl,.int .i64 s.unit] []=some (.aL [.ag none 3 (aN (bN Lib.itoa esc c ku kl s.unit).1),.int .i64 0], []):=fun s hs=>Jb c hc ku s.unit kl (jz h (by rw [<-hS];exact hs));have hst: ∀m∈km,aq cfg 27 [b8 c,.int .i64 ku,.str kl,.ag m.rn m.rz (aN m.c.1)] []=some (.bool (gN (dY Lib.itoa esc c kl ku) m.c.1), []):=fun m hm=>zW c hc ku kl m.rn m.rz m.c.1 (hme m hm).rz (hme m hm).rl;have hp:=cb km;have hE: ∀i (h:i<km.length),(km.map dT)[i]?=some (dT km[i]):=fun i h=>get_map _ _ h;have hEl:(km.map dT).length=km.length:=by simp
 unfold b8 eV uf HH wb at*
 simp only;generalize aA c.af=L1 at*
 generalize c.aD.map fD=L2 at*
 generalize c.ao.map cj=L3 at*
 generalize km.map dT=KM at*
 rw [<-hS] at w;have hSp:ai (S.map du)=true:=cQ (fun x=>by simp [du,AV.plain,aK]) _;have hSl:(S.map du).length=S.length:=by simp
 simp (maxSteps:=9^9) (disch:=omega) [-aaO,-aaP,-aaE,-getElem?_pos,-getElem?_neg,om,Tc,w,hp,ab,hEl,gw,hSp]
 refine Wp.aP (fun (a:Nat×List (Int×Me×Nat)×Nat)=>km.length-a.1) (fun a=> [none,none,some (.ptr 0 0),some (.ptr 1 0),some (.ptr 2 0),none,none,some (.ptr 4 0),none,some (.bT 5),none,none,none,none,none,none,none,none,none,none,none,none,some (.ag mn mz KM),some (.int .i64 km.length),some (.int .i64 a.1),none,none,none,none,none,none,none,none,none,none,none,none,none,none,none,none,none,none,none,none,none,none,none,none])
  (fun a=> [.var 31 [.int .i64 ku,.str kl,.ag mn mz KM],.var 26 [.ag c.ln c.lz L1,.ag c.bn c.bz L2,.ag c.sn c.sz L3],.var 31 [.int .i64 0,.str [],.ax 3 0],.sl ⟨false,some 60,none⟩ 4 [],.var 49 [.int .i64 ku,.str kl,.ag none 3 (S.map du)],.mp (a.2.1.map (ej dT)) a.2.2])
  (fun a=>a.1<=km.length∧bq a.2.1=Ey (km.take a.1)) ?_ (0, [],0) ⟨by omega,rfl⟩ (by simp) (by simp)
 rintro ⟨i,M,ck⟩ ⟨hil,hM⟩;simp only at hil hM⊢;by_cases h1:i<km.length
 ·have hg:=hE i h1;obtain rfl:=hmz (ne_of_lt h1);have hM2:=Jq h1;rw [<-hM] at hM2;clear hE;generalize km[i]=v at*
  have up: ∀B0 B1 B2 B3 B4 l,ay cfg (cfg.ti 110) (.bT 5) (.int .i64 v.c.2.unit) (.agg [.ag v.rn v.rz (aN v.c.1),.int .i64 v.c.2.unit,.str v.c.2.num,.ag v.nn v.nz (v.c.2.nodes.map dO)]) (B0::B1::B2::B3::B4:: .mp (M.map (ej dT)) ck::l)=some (.aL [],.gQ 5 (.mp ((kW M ck v.c.2.unit v).map (ej dT)) (gv M ck v.c.2.unit))):=fun B0 B1 B2 B3 B4 l=>aaw rfl v.c.2.unit v;have hpm:=l8 v;unfold dT at hg hpm;simp only [Mf] at up;simp (maxSteps:=9^9) (disch:=omega) [-aaO,-aaP,-aaE,-getElem?_pos,-getElem?_neg,om,h1,hg,hEl,ab,up,hpm,ug,uh];refine ⟨i+1,_,⟨by omega,(eD M ck v.c.2.unit v).trans hM2.symm⟩,by omega,by simp,rfl⟩
 ·obtain rfl:i=km.length:=by omega
  rw [adn] at hM;clear hE
  have hn2:(km.map fun m=>m.c.2.unit).Nodup:=by unfold dL at hn;rw [ab2] at hn;exact hn
  have hfind: ∀u,cw (bq M) u=pZ km u:=fun u=>by rw [hM];exact Mv hn2 u
  obtain ⟨pk,hpk⟩: ∃pk,pk=iT Lib.itoa esc c ku kl (km.map Me.c):=⟨_,rfl⟩;have hres:yf ku kl (aG Lib.itoa esc c ku kl (km.map Me.c))=yf ku kl (S.map fun s=>(pk s).1):=by rw [hpk,hS];rfl
  have hres2:cI (fC Lib.itoa esc c ku kl (km.map Me.c))=cI ((S.filter fun s=>(pk s).2).map mm.unit):=by rw [hpk,hS];rfl
  have hpick: ∀s,pk s=match pZ km s.unit with | some m=>if gN (dY Lib.itoa esc c kl ku) m.c.1=true then (((bN Lib.itoa esc c ku kl s.unit).1,s),true) else (m.c,false) | none=>(((bN Lib.itoa esc c ku kl s.unit).1,s),true):=fun s=>by
   rw [hpk];unfold iT pV;rw [<-O4];cases pZ km s.unit <;> rfl
  have hcp: ∀m∈km,aq cfg 65 [dT m] []=some (gX m.c, []):=fun m hm=>O2 m (hme m hm);have hfm: ∀{u m},pZ km u=some m->m∈km:=fun hf=>ac7 hf;have lk: ∀B0 B1 B2 B3 B4 l u,bU cfg (cfg.ti 110) (.bT 5) (.int .i64 u) true (B0::B1::B2::B3::B4:: .mp (M.map (ej dT)) ck::l)=some (Yj (bq M) u,.none):=fun B0 B1 B2 B3 B4 l u=>Yk rfl u;simp only [Mf] at lk;have hSg: ∀k (h:k<S.length),(S.map du)[k]?=some (.agg [.int .i64 S[k].unit,.str S[k].num,.ag none 3 (S[k].nodes.map dO)]):=fun k h=>get_map _ _ h;rw [hres,hres2]
  have hSm:S.length<1000000:=by rw [hS];unfold eh;rw [List.length_map];have h5:=(m9 Lib.itoa ku c.ao ⟨[], []⟩).1;have h6:=hc.sl;omega
  clear hres hres2 hpk hn hn2 hM hme;obtain ⟨DD,hDD⟩: ∃DD:Nat->List AV,DD=fun i=>((S.take i).map fun s=>(pk s).1).map gX:=⟨_,rfl⟩;obtain ⟨NL,hNL⟩: ∃NL:Nat->Nat,NL=fun i=>((S.take i).filter fun s=>(pk s).2).length:=⟨_,rfl⟩;obtain ⟨NN,hNN⟩: ∃NN:Nat->List AV,NN=fun i=>cI (((S.take i).filter fun s=>(pk s).2).map mm.unit):=⟨_,rfl⟩;have hD0:DD 0= []:=by rw [hDD];rfl
  have hN0:NN 0= []:=by rw [hNN];rfl
  have hL0:NL 0=0:=by rw [hNL];rfl
  have hDn:DD S.length=(S.map fun s=>(pk s).1).map gX:=by rw [hDD];simp only [adn]
  have hNn:NN S.length=cI ((S.filter fun s=>(pk s).2).map mm.unit):=by rw [hNN];simp only [adn]
  have hDs: ∀i (h:i<S.length),DD (i+1)=DD i++ [gX (pk S[i]).1]:=fun i h=>by
   rw [hDD];simp only;rw [adL h,aaL,aaL];rfl
  have hNs: ∀i (h:i<S.length),NN (i+1)=NN i++(if (pk S[i]).2=true then [.int .i64 S[i].unit] else [])∧NL (i+1)=NL i+(if (pk S[i]).2=true then 1 else 0):=fun i h=>by
   rw [hNN,hNL];simp only;rw [adL h,List.filter_append];cases hq:(pk S[i]).2 <;> simp [hq,cI]
  have hDl: ∀i,i<=S.length->(DD i).length=i:=fun i hi=>by rw [hDD];simp;omega
  have hNl: ∀i,(NN i).length=NL i:=fun i=>by rw [hNN,hNL];simp [cI]
  have hNi: ∀i,i<=S.length->NL i<=i:=fun i hi=>by
   rw [hNL];have:=List.length_filter_le (fun s=>(pk s).2) (S.take i);rw [abc] at this;simp only;omega
  have hDp: ∀i,ai (DD i)=true:=fun i=>by rw [hDD];exact cG _
  have hNp: ∀i,ai (NN i)=true:=fun i=>by rw [hNN];exact dB _
  unfold yf;rw [<-hDn,<-hNn];clear hDD hNL hNN hDn hNn;simp (maxSteps:=9^9) (disch:=omega) [-aaO,-aaP,-aaE,-getElem?_pos,-getElem?_neg,om,hEl,ab,ug,uh,hSp,hSl]
  refine Wp.aP (fun (a:Nat×Option AV)=>S.length-a.1) (fun a=> [none,none,some (.ptr 0 0),some (.ptr 1 0),some (.ptr 2 0),none,none,none,none,some (.bT 5),none,some (.ptr 6 0),some (.ax 8 (NL a.1)),none,none,none,none,none,none,none,none,none,none,none,none,none,none,none,some (.ag none 3 (S.map du)),some (.int .i64 S.length),some (.int .i64 a.1),none,none,none,a.2,none,none,none,none,none,none,none,none,none,none,none,none,none,none])
   (fun a=> [.var 31 [.int .i64 ku,.str kl,.ag mn mz KM],.var 26 [.ag c.ln c.lz L1,.ag c.bn c.bz L2,.ag c.sn c.sz L3],.var 31 [.int .i64 0,.str [],.ax 3 0],.sl ⟨false,some 60,none⟩ 4 [],.var 49 [.int .i64 ku,.str kl,.ag none 3 (S.map du)],.mp (M.map (ej dT)) ck,
    .var 31 [.int .i64 ku,.str kl,.ax 7 a.1],.sl ⟨false,some 60,none⟩ 4 (DD a.1),.sl ⟨false,some 3,none⟩ 1 (NN a.1)])
   (fun a=>a.1<=S.length) ?_ (0,none) (by simp) (by simp [hL0]) (by simp [hD0,hN0])
  clear hD0 hN0 hL0;rintro ⟨i,o⟩ hil;simp only at hil⊢;have hDli:=hDl i hil;have hNli:=hNl i;have hNii:=hNi i hil;have hDpi:=hDp i;have hNpi:=hNp i;by_cases h1:i<S.length
  ·have hg:=hSg i h1;have hsm:=aa8 h1;have e1:=hDs i h1;obtain ⟨e2,e3⟩:=hNs i h1;have hr:=hrd S[i] hsm;have hp:=hpick S[i];rw [hp] at e1 e2 e3;clear hrd hpick hSg hp hDs hNs hDl hNl hNi hDp hNp;generalize S[i]=s at*
   cases hf:pZ km s.unit with
   | none=>rw [hf] at e1 e2 e3;simp only [if_true] at e1 e2 e3;have lk1: ∀B0 B1 B2 B3 B4 l,_=_:=fun B0 B1 B2 B3 B4 l=>lk B0 B1 B2 B3 B4 l s.unit;unfold Yj at lk1;rw [hfind,hf] at lk1;unfold me0 at lk1;clear hst hcp hfm;simp (maxSteps:=9^9) (disch:=omega) [-aaO,-aaP,-aaE,-getElem?_pos,-getElem?_neg,om,h1,hg,ab,lk1,hr,hDli,hNli,ug,uh,hSp,hSl];exact ⟨i+1,by omega,by omega,⟨e3.symm,by simp⟩,rfl,e1.symm,e2.symm⟩
   | some m=>
    have hmm:=hfm hf;have hs1:=hst m hmm;have hc1:=hcp m hmm;rw [hf] at e1 e2 e3;have lk1: ∀B0 B1 B2 B3 B4 l,_=_:=fun B0 B1 B2 B3 B4 l=>lk B0 B1 B2 B3 B4 l s.unit;unfold Yj at lk1;rw [hfind,hf] at lk1;have hpm:=l8 m;simp only [Gv] at lk1 hc1 hpm;unfold gX at hc1;clear hst hcp hfm hf;cases hq:gN (dY Lib.itoa esc c kl ku) m.c.1 with
    | true=>rw [hq] at hs1;simp only [hq,if_true] at e1 e2 e3;simp (maxSteps:=9^9) (disch:=omega) [-aaO,-aaP,-aaE,-getElem?_pos,-getElem?_neg,om,h1,hg,ab,lk1,hr,hs1,hDli,hNli,ug,uh,hSp,hSl,hpm];exact ⟨i+1,by omega,by omega,⟨e3.symm,by simp⟩,rfl,e1.symm,e2.symm⟩
    | false=>rw [hq] at hs1;simp only [hq,if_false,aav] at e1 e2 e3;simp (maxSteps:=9^9) (disch:=omega) [-aaO,-aaP,-aaE,-getElem?_pos,-getElem?_neg,om,h1,hg,ab,lk1,hs1,hc1,hDli,hNli,ug,uh,hSp,hSl,hpm];exact ⟨i+1,by omega,by omega,⟨by rw [e3];rfl,by simp⟩,rfl,e1.symm,by rw [e2];exact (List.append_nil _).symm⟩
  ·obtain rfl:i=S.length:=by omega
   simp (maxSteps:=9^9) (disch:=omega) [-aaO,-aaP,-aaE,-getElem?_pos,-getElem?_neg,om,hSl,ab,hDli,hNli,hDpi,hNpi,ug,uh,hSp]
@[simp] theorem Ym (a b:Nat):(some a !=some b)=(a !=b):=rfl
@[simp] theorem O5 (f:FuncId) (a b d:Nat) (ts:Array TypeId):mA (.call ⟨.value (.func f), #[.tmp a,.tmp b,.tmp d],ts⟩)= [a,b,d]:=rfl
theorem Mw (n:Nat):cK n∘ej bA=ej bA:=by funext e;simp [cK,ej,bA,forget,AV.under,ar]
theorem Ez (n:Nat) (m:List (Int×Unit×Nat)):db n (m.map (ej bA))=true:=by
 induction m with
 | nil=>rfl
 | cons e r ih=>simp [db,ej,bA,AV.under,ar] at ih⊢;try exact ih
def BdR (r:Cell×ae):Prop:=(r.1.1=1->r.2.length<=10000)∧(r.1.1=2->r.2.length<900000∧ ∀p∈splitB 10 r.2.dropLast,p.length<=10000)∧(r.1.1=3∨r.1.1=4->r.2.length<=1000)
def Bd (l:List (Cell×ae)):Prop:= ∀r∈l,BdR r
theorem iO {l:List (Cell×ae)} (x:Cell):(aw l x).getD []= []∨ ∃r∈l,r.1=x∧(aw l x).getD []=r.2:=by
 unfold aw;cases hf:l.find? (fun y=>decide (y.1=x)) with
 | none=>exact .inl rfl
 | some y=>exact .inr ⟨y,ac7 hf,by have:=ac2 hf;simpa using this,rfl⟩
theorem EA (unit:Int) (l:List (Cell×ae)) (hb:Bd l) (hl:l.length<1000000) (nl:Option Bool) (z:Nat) (hr:l≠ []->nl=none∧z=3):aq cfg 76 [.int .i64 unit,.ag nl z (aN l)] []=some (iV (dH unesc unit l), []):=by
 by_cases he:l= []
 ·subst he;exact I5 unit nl z
 ·obtain ⟨rfl,rfl⟩:=hr he;refine Lx unit l he hl ?_ ?_ ?_ ?_
  ·rcases iO (l:=l) (1,unit) with h | ⟨r,hm,hx,h⟩
   ·rw [h];simp
   ·rw [h];exact (hb r hm).1 (by rw [hx])
  ·rcases iO (l:=l) (2,unit) with h | ⟨r,hm,hx,h⟩
   ·rw [h];simp
   ·rw [h];exact ((hb r hm).2.1 (by rw [hx])).1
  ·rcases iO (l:=l) (2,unit) with h | ⟨r,hm,hx,h⟩
   ·rw [h];intro p hp;simp [splitB] at hp;subst hp;simp
   ·rw [h];exact ((hb r hm).2.1 (by rw [hx])).2
  ·intro k u hk;rcases iO (l:=l) (k,u) with h | ⟨r,hm,hx,h⟩
   ·rw [h];simp
   ·rw [h];exact (hb r hm).2.2 (by rw [hx];exact hk)
theorem Bd.erase {l:List (Cell×ae)} (h:Bd l) (i:Nat):Bd (l.eraseIdx i):=fun r hr=>h r (List.mem_of_mem_eraseIdx hr)
theorem Jr {unit:Int} {l:List (Cell×ae)} (hb:Bd l) {s:mm} (h:(dH unesc unit l).2=some s):s.nodes.length<1000000:=by
 refine LW (N:=10000) (unit:=unit) (l:=l) ?_ h;rcases iO (l:=l) (2,unit) with h | ⟨r,hm,hx,h⟩
 ·rw [h];intro p hp;simp [splitB] at hp;subst hp;simp
 ·rw [h];exact ((hb r hm).2.1 (by rw [hx])).2
theorem Gw {unit:Int} {l:List (Cell×ae)} (h:(dH unesc unit l).1=0): ∃s,(dH unesc unit l).2=some s:=by
 unfold dH at h⊢;by_cases ha:tQ l=true
 ·rw [if_pos ha] at h⊢;unfold DV at h⊢;by_cases h1:(aw l (1,unit)).getD []= []∨(aw l (2,unit)).getD []= []
  ·rw [if_pos h1] at h;cases h
  ·rw [if_neg h1] at h⊢;cases hx:gK unesc ((aw l (2,unit)).getD []) with
   | none=>rw [hx] at h;cases h
   | some x=>
    rw [hx] at h;simp only at h⊢;cases hn:j5 l (cy ((aw l (1,unit)).getD [])+1) x.facts with
    | none=>rw [hn] at h;cases h
    | some ns=>exact ⟨_,rfl⟩
 ·rw [if_neg ha] at h;cases h
theorem O6 (l:List (Cell×ae)) (hne:l≠ []) (hl:l.length<1000000):aq cfg 79 [.ag none 3 (aN l)] []=some (.ax 1 l.length, [.dead,.sl ⟨false,some 99,none⟩ 3 (aN l)]):=by
 refine aa aar Yn ?_;have hEl:(aN l).length=l.length:=by simp [aN]
 have hEn:aN l≠ []:=by simpa [aN] using hne
 have hpl:=aO l;generalize aN l=E at*
 obtain ⟨e,E',rfl⟩:=List.exists_cons_of_ne_nil hEn;simp only [List.length_cons] at hEl;have hq:jI cfg (.slice 99) (.ag none 3 (e::E')) (.ag (some true) 0 [])=some false:=rfl;simp (maxSteps:=9^9) (disch:=omega) [-aaO,-aaP,-aaE,-getElem?_pos,-getElem?_neg,om,-jI,hq,Yo,hEl,hpl]
structure Me.SU (m:Me):Prop where
 ok:m.ok
 rn:m.c.1≠ []->m.rn=none
 bd:Bd m.c.1
theorem ansProved (m:Me) (hm:m.SU):aq cfg 43 [dT m] []=some (.bool (iy unesc m.c), []):=by
 refine aa aal Yp ?_;obtain ⟨⟨l,s⟩,rn,rz,nn,nz⟩:=m;have hrz:=hm.ok.rz;have hnz:=hm.ok.nz;have hrl:=hm.ok.rl;have hnl:=hm.ok.nl;have hrn:=hm.rn;have hbd:=hm.bd;simp only at hrz hnz hrl hnl hrn hbd⊢;have w1:=EA s.unit l hbd hrl rn rz (fun h=>⟨hrn h,hrz h⟩);have w2: ∀i,aq cfg 76 [.int .i64 s.unit,.ag none 3 (aN (l.eraseIdx i))] []=some (iV (dH unesc s.unit (l.eraseIdx i)), []):=fun i=>EA s.unit _ (hbd.erase i) (by have:=List.length_eraseIdx_le l i;omega) none 3 (fun _=>⟨rfl,rfl⟩);have hp1:=aO l;have hp2:=aK s.nodes;have hEl:(aN l).length=l.length:=by simp [aN]
 rw [En] at w1;have hpb:iy unesc (l,s)=(decide (dH unesc s.unit l=(0,some s))&&Bp unesc (l,s)):=rfl;rw [hpb];unfold dT;simp only;by_cases h0:(dH unesc s.unit l).1=0
 case neg=>
  have h1:decide (dH unesc s.unit l=(0,some s))=false:=by simp only [decide_eq_false_iff_not];intro h;exact h0 (by rw [h])
  rw [h1,abD];have h2:((dH unesc s.unit l).1 !=0)=true:=by simpa using h0
  obtain ⟨u,n,nl2,z2,ns,hv⟩:=yb (dH unesc s.unit l).2;have p2:=aK ns;rw [hv] at w1;clear hv w2 h1 hpb;generalize (dH unesc s.unit l).1=q at*
  generalize aN l=R at*
  generalize ns.map dO=NS at*
  generalize s.nodes.map dO=SN at*
  simp (maxSteps:=9^9) (disch:=omega) [-aaO,-aaP,-aaE,-getElem?_pos,-getElem?_neg,om,O7,w1,ab,h0,h2,hp1,hp2,p2]
 obtain ⟨t,ht⟩:=Gw h0;have htl:=Jr hbd ht;have w3:=Mu none nn 3 nz t s (fun _=>rfl) hnz htl hnl;rw [ht,h0] at w1
 have hd:decide (dH unesc s.unit l=(0,some s))=decide (t=s):=by rw [show dH unesc s.unit l=(0,some t) from Prod.ext h0 ht,abC];simp
 rw [hd];have pt:=aK t.nodes;unfold SH du at w1;simp only at w1;unfold OW at w3;by_cases hts:t=s
 case neg=>
  rw [decide_eq_false hts] at w3⊢;rw [abD];clear w2 hpb hd;generalize aN l=R at*
  generalize t.nodes.map dO=TN at*
  generalize s.nodes.map dO=SN at*
  simp (maxSteps:=9^9) (disch:=omega) [-aaO,-aaP,-aaE,-getElem?_pos,-getElem?_neg,om,O7,w1,w3,ab,hp1,hp2,pt]
 rw [decide_eq_true hts] at w3⊢;rw [adH];clear hd hpb
 have hcd: ∀i,∃o:AV,∃u n nl2 z2 ns,o= .agg [.int .i64 u,.str n,.ag nl2 z2 ns]∧ai ns=true∧aq cfg 76 [.int .i64 s.unit,.ag none 3 (aN (l.eraseIdx i))] []=some (.aL [o,.int .i64 (dH unesc s.unit (l.eraseIdx i)).1], []):=fun i=>by
  have:=w2 i;rw [En] at this;obtain ⟨u,n,nl2,z2,ns,hv⟩:=yb (dH unesc s.unit (l.eraseIdx i)).2;exact ⟨_,u,n,nl2,z2,_,hv,aK ns,this⟩
 have hnb:Bp unesc (l,s)=(List.range l.length).all fun i=>decide ((dH unesc s.unit (l.eraseIdx i)).1≠0):=rfl
 have her: ∀i,aN (l.eraseIdx i)=(aN l).take i++(aN l).drop (i+1):=fun i=>by
  unfold aN;rw [<-tT,List.eraseIdx_eq_take_drop_succ]
 simp only [her] at hcd;have wcl:l≠ []->_:=fun h=>O6 l h hrl;rw [hnb];clear hnb w2 her;generalize hcode:(fun i=>(dH unesc s.unit (l.eraseIdx i)).1)=code at*
 have hce: ∀i,(dH unesc s.unit (l.eraseIdx i)).1=code i:=fun i=>by rw [<-hcode]
 simp only [hce] at hcd⊢;clear hcode hce;generalize hR:aN l=R at*
 generalize t.nodes.map dO=TN at*
 generalize s.nodes.map dO=SN at*
 simp (maxSteps:=9^9) (disch:=omega) [-aaO,-aaP,-aaE,-getElem?_pos,-getElem?_neg,om,O7,w1,w3,ab,hp1,hp2,pt,hEl];clear w1 w3;refine Wp.aP (fun (i:Nat)=>l.length-i) (fun i=> [none,some (.ptr 0 0),none,none,none,none,none,none,none,none,none,some (.int .i64 l.length),some (.int .i64 i),none,none,none,none,none,none]) (fun _=> [.var 60 [.ag rn rz R,.int .i64 s.unit,.str s.num,.ag nn nz SN],.var 58 [.int .i64 t.unit,.str t.num,.ag none 3 TN]]) (fun i=>i<=l.length∧ ∀j,j<i->code j≠0) ?_ 0 ⟨by omega,fun j hj=>absurd hj (by omega)⟩ (by simp) (by simp);rintro i ⟨hil,hi⟩;by_cases h1:i<l.length
 ·obtain rfl:=hrn (ne_of_lt h1);obtain rfl:=hrz (ne_of_lt h1);have wc:=wcl (ne_of_lt h1);obtain ⟨o,u,n,nl2,z2,ns,rfl,po,wo⟩:=hcd i;clear hcd wcl;have hti:(R.take i++R.drop (i+1)).length=l.length-1:=by simp only [List.length_append,abc,List.length_drop,hEl];omega
  by_cases hz:code i=0
  ·have hall:((List.range l.length).all fun i=> !decide (code i=0))=false:=by rw [List.all_eq_false];exact ⟨i,abl.2 h1,by simp [hz]⟩
   rw [hz] at wo;clear hi;simp (maxSteps:=9^9) (disch:=omega) [-aaO,-aaP,-aaE,-getElem?_pos,-getElem?_neg,om,h1,hEl,ab,wc,Bu,wo,po,hti,hall]
  ·have hz2:(code i==0)=false:=by simpa using hz
   simp (maxSteps:=9^9) (disch:=omega) [-aaO,-aaP,-aaE,-getElem?_pos,-getElem?_neg,om,h1,hEl,ab,wc,Bu,wo,po,hti,hz,hz2]
   exact ⟨i+1,⟨by omega,fun j hj=>by
    by_cases e:j=i
    ·rw [e];exact hz
    ·exact hi j (by omega)⟩,by omega,by simp⟩
 ·obtain rfl:i=l.length:=by omega
  have hall:((List.range l.length).all fun i=> !decide (code i=0))=true:=by rw [List.all_eq_true];intro j hj;have:=hi j (abl.1 hj);simpa using this
  clear hi hcd wcl;simp (maxSteps:=9^9) (disch:=omega) [-aaO,-aaP,-aaE,-getElem?_pos,-getElem?_neg,om,hEl,ab,hall,hp1,hp2,pt]
theorem Js {l:List Me} {i:Nat} (h:i<l.length) (hin:l[i].c.2.unit∈(l.take i).map fun m=>m.c.2.unit):fF unesc (l.map Me.c)=6:=by
 unfold fF;rw [if_neg];unfold dL;rw [ab2];intro hn
 have hs:((l.take (i+1)).map fun m=>m.c.2.unit).Nodup:=by refine List.Nodup.sublist ?_ hn;exact (List.take_sublist _ _).map _
 rw [adL h,aaL,aaT] at hs;exact hs.2.2 _ hin _ (by simp) rfl
theorem EB {l:List Me} (h:(l.map fun m=>m.c.2.unit).Nodup):fF unesc (l.map Me.c)=if (l.all fun m=>iy unesc m.c)=true then 0 else 14:=by
 unfold fF;have h2:(dL (l.map Me.c)).Nodup:=by unfold dL;rw [ab2];exact h
 rw [if_pos h2,List.all_map];rfl
theorem sO (k:Kp) (hmz:k.cO≠ []->k.mz=4) (hml:k.cO.length<1000000) (hme: ∀m∈k.cO,m.SU):aq cfg 19 [uf k] []=some (.int .i64 (fF unesc k.cs), []):=by
 refine aa aad Yq ?_;obtain ⟨ku,kl,km,mn,mz⟩:=k;unfold Kp.cs uf HH;simp only at hmz hml hme⊢;have hp:=cb km;have hE: ∀i (h:i<km.length),(km.map dT)[i]?=some (dT km[i]):=fun i h=>get_map _ _ h;have hEl:(km.map dT).length=km.length:=by simp
 have w: ∀m∈km,aq cfg 43 [dT m] []=some (.bool (iy unesc m.c), []):=fun m hm=>ansProved m (hme m hm);have hdup:=fun i h=>Js (l:=km) (i:=i) h;have hnod:=EB (l:=km);obtain ⟨V,hV⟩: ∃V,V=fF unesc (km.map Me.c):=⟨_,rfl⟩;rw [<-hV] at hnod⊢;simp only [<-hV] at hdup;obtain ⟨US,hUS⟩: ∃US:Nat->List Int,US=fun i=>(km.take i).map fun m=>m.c.2.unit:=⟨_,rfl⟩;have hU0:US 0= []:=by rw [hUS];rfl
 have hUn:US km.length=km.map fun m=>m.c.2.unit:=by rw [hUS];simp only [adn]
 have hUs: ∀i (h:i<km.length),US (i+1)=US i++ [km[i].c.2.unit]:=fun i h=>by
  rw [hUS];simp only;rw [adL h,aaL];rfl
 have hdup: ∀i (h:i<km.length),km[i].c.2.unit∈US i->V=6:=fun i h hin=>hdup i h (by rw [hUS] at hin;exact hin);clear hV hUS hme;generalize km.map dT=KM at*
 simp (maxSteps:=9^9) (disch:=omega) [-aaO,-aaP,-aaE,-getElem?_pos,-getElem?_neg,om,Yr,ab,hEl,hp,gw]
 refine Wp.aP (fun (a:Nat×List (Int×Unit×Nat)×Nat)=>km.length-a.1) (fun a=> [none,some (.ptr 0 0),none,some (.bT 1),none,none,none,some (.ag mn mz KM),some (.int .i64 km.length),some (.int .i64 a.1),none,none,none,none,none,none,none,none,none,none])
  (fun a=> [.var 31 [.int .i64 ku,.str kl,.ag mn mz KM],.mp (a.2.1.map (ej bA)) a.2.2])
  (fun a=>a.1<=km.length∧(US a.1).Nodup∧ ∀u,(cw (bq a.2.1) u).isSome=decide (u∈US a.1)) ?_ (0, [],0) ⟨by omega,by rw [hU0];exact List.nodup_nil,fun u=>by rw [hU0];rfl⟩ (by simp) (by simp)
 rintro ⟨i,M,ck⟩ ⟨hil,hnd,hM⟩;simp only at hil hnd hM⊢;by_cases h1:i<km.length
 ·have hg:=hE i h1;obtain rfl:=hmz (ne_of_lt h1);have hu:=hUs i h1;have hd:=hdup i h1;clear hE hUs hdup w hnod hU0 hUn;generalize km[i]=v at*
  have lk: ∀B0 l,bU cfg (cfg.ti 86) (.bT 1) (.int .i64 v.c.2.unit) false (B0:: .mp (M.map (ej bA)) ck::l)=some (.bool (cw (bq M) v.c.2.unit).isSome,.none):=fun B0 l=>Yi rfl v.c.2.unit;have up: ∀B0 l,ay cfg (cfg.ti 86) (.bT 1) (.int .i64 v.c.2.unit) (.bool true) (B0:: .mp (M.map (ej bA)) ck::l)=some (.aL [],.gQ 1 (.mp ((kW M ck v.c.2.unit ()).map (ej bA)) (gv M ck v.c.2.unit))):=fun B0 l=>aau rfl v.c.2.unit;have hpm:=l8 v;unfold dT at hg hpm;simp only [Xw,hM] at lk up;by_cases hin:v.c.2.unit∈US i
  ·have hd:=hd hin;rw [decide_eq_true hin] at lk;clear hM hu hnd;simp (maxSteps:=9^9) (disch:=omega) [-aaO,-aaP,-aaE,-getElem?_pos,-getElem?_neg,om,h1,hg,hEl,ab,lk,hpm,hd]
  ·rw [decide_eq_false hin] at lk;clear hd;simp (maxSteps:=9^9) (disch:=omega) [-aaO,-aaP,-aaE,-getElem?_pos,-getElem?_neg,om,h1,hg,hEl,ab,lk,up,hpm,Mw,Ez];refine ⟨i+1,kW M ck v.c.2.unit (),gv M ck v.c.2.unit,⟨by omega,?_,fun u=> ?_⟩,by omega,by simp,rfl,rfl⟩
   ·rw [hu,aaT]
    exact ⟨hnd,by simp,fun a ha b hb=>by
     simp only [adl] at hb;subst hb;exact fun e=>hin (e▸ha)⟩
   ·rw [eD,fJ,hu];by_cases e:v.c.2.unit=u
    ·rw [if_pos e,<-e];simp
    ·rw [if_neg e,hM];rw [abC,decide_eq_true_eq,decide_eq_true_eq,List.mem_append,adl];exact ⟨.inl,fun h=>h.elim id fun h=>absurd h.symm e⟩
 ·obtain rfl:i=km.length:=by omega
  have hV:=hnod (by rw [<-hUn];exact hnd);clear hnd hM hUs hUn hU0 hdup hnod;simp (maxSteps:=9^9) (disch:=omega) [-aaO,-aaP,-aaE,-getElem?_pos,-getElem?_neg,om,hEl,ab,hp,Mw,Ez]
  refine Wp.aP (fun (i:Nat)=>km.length-i) (fun i=> [none,none,none,none,none,none,none,none,none,none,none,none,none,some (.ag mn mz KM),some (.int .i64 km.length),some (.int .i64 i),none,none,none,none])
   (fun _=> [.var 31 [.int .i64 ku,.str kl,.ag mn mz KM],.mp (M.map (ej bA)) ck])
   (fun i=>V=(if ((km.drop i).all fun m=>iy unesc m.c)=true then 0 else 14)∧i<=km.length) ?_ 0 ⟨by rw [List.drop_zero];exact hV,by omega⟩ (by simp) (by simp)
  clear hV;rintro i ⟨hV,hil⟩;by_cases h1:i<km.length
  ·have hg:=hE i h1;obtain rfl:=hmz (ne_of_lt h1);have w1:=w _ (aa8 h1);rw [aaB h1,List.all_cons] at hV;clear hE w;generalize km[i]=v at*
   have hpm:=l8 v;unfold dT at hg hpm w1;cases hq:iy unesc v.c with
   | false=>rw [hq] at hV w1;simp only [abD,aav,if_false] at hV;subst hV;simp (maxSteps:=9^9) (disch:=omega) [-aaO,-aaP,-aaE,-getElem?_pos,-getElem?_neg,om,h1,hg,hEl,ab,w1,hpm,Mw,Ez]
   | true=>
    rw [hq] at hV w1;simp only [adH] at hV;generalize hd:((km.drop (i+1)).all fun m=>iy unesc m.c)=dd at*
    simp (maxSteps:=9^9) (disch:=omega) [-aaO,-aaP,-aaE,-getElem?_pos,-getElem?_neg,om,h1,hg,hEl,ab,w1,hpm,Mw,Ez];exact ⟨i+1,⟨by rw [<-hd] at hV;simpa using hV,by omega⟩,by omega,by simp⟩
  ·rw [aaC (by omega),List.all_nil] at hV;simp only [if_true] at hV;subst hV;simp (maxSteps:=9^9) (disch:=omega) [-aaO,-aaP,-aaE,-getElem?_pos,-getElem?_neg,om,h1,hEl,ab,hp,Mw,Ez]
end Go.Proofs.YtfgbpngakkhdcaaGreatDoor
