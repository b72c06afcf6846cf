/- Maps with numbers as keys. -/
import Derived.Test.YtfgbpngakkhdcaaGreatDoorAdtM
open List renaming foldl_cons->aa2,getD_eq_getElem?_getD->aaE,map_cons->aaM,map_replicate->aaO,map_set->aaP
open Nat renaming le_refl->aa0
set_option linter.all false
namespace Go.Proofs.YtfgbpngakkhdcaaGreatDoor
open Go.Am
set_option maxRecDepth 10000
set_option maxHeartbeats 4000000
section
variable {α:Type}
def ej (vf:α->AV) (e:Int×α×Nat):AV×AV×Nat:=(.int .i64 e.1,vf e.2.1,e.2.2)
def fw (u:Int):List (Int×α×Nat)->Nat->Option (Nat×Int×α×Nat)
 | [],_=>none
 | e::r,i=>if e.1=u then some (i,e) else fw u r (i+1)
theorem ji (vf:α->AV) (u:Int): ∀(m:List (Int×α×Nat)) (i:Nat),kg (bh cfg 20 3) (.int .i64 u) (m.map (ej vf)) i=some ((fw u m i).map fun p=>(p.1,ej vf p.2))
 | [],i=>rfl
 | e::r,i=>by
  have ih:=ji vf u r (i+1);have he:bh cfg 20 3 (.int .i64 u) (ej vf e).1=some (u==e.1):=by simp (config:={maxSteps:=1000000}) (disch:=omega) [-aaO,-aaP,-aaE,-getElem?_pos,-getElem?_neg,wrap_i64,oS,ki,kj,jh,ej]
  simp only [aaM,kg,he,fw];by_cases hs:e.1=u
  ·simp [hs]
  ·have hs2:(u==e.1)=false:=by simpa using fun h=>hs h.symm
   simp only [hs2,if_neg hs];exact ih
def bq (m:List (Int×α×Nat)):List (Int×α):=m.map fun e=>(e.1,e.2.1)
theorem jE (u:Int): ∀(m:List (Int×α×Nat)) (i:Nat),(fw u m i).map (fun p=>p.2.2.1)=cw (bq m) u
 | [],i=>rfl
 | e::r,i=>by
  have ih:=jE u r (i+1);simp only [fw,bq,aaM,cw];by_cases hs:e.1=u
  ·simp [hs]
  ·rw [if_neg hs,if_neg hs];exact ih
theorem gZ (u:Int): ∀(m:List (Int×α×Nat)) (i j:Nat) (e:Int×α×Nat),fw u m i=some (j,e)->i<=j∧m[j-i]?=some e∧e.1=u
 | [],i,j,e,h=>by cases h
 | x::r,i,j,e,h=>by
  simp only [fw] at h;split at h
  ·rename_i hs;cases h;exact ⟨aa0 _,by simp,hs⟩
  ·obtain ⟨h1,h2,h3⟩:=gZ u r (i+1) j e h;refine ⟨by omega,?_,h3⟩;rw [show j-i=(j-(i+1))+1 by omega];simpa using h2
def kW (m:List (Int×α×Nat)) (clock:Nat) (u:Int) (v:α):List (Int×α×Nat):=match fw u m 0 with
 | some (j,e)=>m.set j (u,v,e.2.2)
 | none=>m++ [(u,v,clock)]
def gv (m:List (Int×α×Nat)) (clock:Nat) (u:Int):Nat:=match fw u m 0 with
 | some _=>clock
 | none=>clock+1
theorem GG (u:Int) (v:α): ∀(m:List (Int×α×Nat)) (i j:Nat) (e:Int×α×Nat),fw u m i=some (j,e)->iY (bq m) u v=bq (m.set (j-i) (u,v,e.2.2))
 | [],i,j,e,h=>by cases h
 | x::r,i,j,e,h=>by
  simp only [fw] at h;split at h
  ·rename_i hs;cases h;simp [bq,iY,hs]
  ·rename_i hs;obtain ⟨h1,_,_⟩:=gZ u r (i+1) j e h;have ih:=GG u v r (i+1) j e h;rw [show j-i=(j-(i+1))+1 by omega,List.set_cons_succ];simp only [bq,aaM,iY,if_neg hs] at ih⊢;rw [ih]
theorem BN (u:Int) (v:α) (c:Nat): ∀(m:List (Int×α×Nat)) (i:Nat),fw u m i=none->iY (bq m) u v=bq (m++ [(u,v,c)])
 | [],i,_=>rfl
 | x::r,i,h=>by
  simp only [fw] at h;split at h
  ·cases h
  ·rename_i hs;have ih:=BN u v c r (i+1) h;simp only [bq,aaM,List.cons_append,iY,if_neg hs] at ih⊢;rw [ih]
theorem eD (m:List (Int×α×Nat)) (clock:Nat) (u:Int) (v:α):bq (kW m clock u v)=iY (bq m) u v:=by
 unfold kW;cases h:fw u m 0 with
 | none=>exact (BN u v clock m 0 h).symm
 | some p=>obtain ⟨j,e⟩:=p;have:=GG u v m 0 j e h;simp only [Nat.sub_zero] at this;exact this.symm
end
end Go.Proofs.YtfgbpngakkhdcaaGreatDoor
namespace Go.Proofs.YtfgbpngakkhdcaaGreatDoor
open Go.Am
set_option maxRecDepth 10000
set_option maxHeartbeats 4000000
theorem qd {α:Type} (u:Int) (v:α) (m:List (Int×α)):cw (iY m u v) u=some v:=by rw [fJ,if_pos rfl]
def EK (m:List (Int×ae)) (u:Int):AV:=match cw m u with
 | some v=> .aL [.str v,.bool true]
 | none=> .aL [.str [],.bool false]
def iA (n:Int):AV:= .int .i64 n
theorem MR {bs:List ad} {k clock:Nat} {m:List (Int×ae×Nat)} (h:ad.at bs k= .mp (m.map (ej .str)) clock) (u:Int):bU cfg (cfg.ti 134) (.bT k) (.int .i64 u) true bs=some (EK (bq m) u,.none):=by
 have hf:=ji .str u m 0;have hl:=jE u m 0;unfold EK;rw [<-hl];cases hq:fw u m 0 with
 | none=>rw [hq] at hf;simp [bU,dq,iZ,jF,bH,h,hf,-bh]
 | some p=>rw [hq] at hf;simp [bU,dq,iZ,jF,bH,h,hf,-bh,ej]
theorem MS {bs:List ad} {k clock:Nat} {m:List (Int×Int×Nat)} (h:ad.at bs k= .mp (m.map (ej iA)) clock) (u:Int):bU cfg (cfg.ti 135) (.bT k) (.int .i64 u) false bs=some (.int .i64 ((cw (bq m) u).getD 0),.none):=by
 have hf:=ji iA u m 0;have hl:=jE u m 0;rw [<-hl];cases hq:fw u m 0 with
 | none=>rw [hq] at hf;simp [bU,dq,iZ,jF,bH,h,hf,-bh]
 | some p=>rw [hq] at hf;simp [bU,dq,iZ,jF,bH,h,hf,-bh,ej,iA]
theorem ko {α:Type} (vf:α->AV) (m:List (Int×α×Nat)) (j:Nat) (e:Int×α×Nat):(m.set j e).map (ej vf)=(m.map (ej vf)).set j (ej vf e):=by simp [aaP]
theorem Qs {bs:List ad} {k clock:Nat} {m:List (Int×ae×Nat)} (h:ad.at bs k= .mp (m.map (ej .str)) clock) (u:Int) (v:ae):ay cfg (cfg.ti 134) (.bT k) (.int .i64 u) (.str v) bs=some (.aL [],.gQ k (.mp ((kW m clock u v).map (ej .str)) (gv m clock u))):=by
 have hf:=ji .str u m 0;unfold kW gv;cases hq:fw u m 0 with
 | none=>rw [hq] at hf;simp [ay,bH,fI,eY,gb,h,hf,-bh,ej]
 | some p=>obtain ⟨j,e⟩:=p;obtain ⟨_,_,he⟩:=gZ u m 0 j e hq;rw [hq] at hf;simp [ay,bH,fI,eY,gb,h,hf,-bh,ej,sameKey,gp,he,ko,-aaP]
theorem Qt {bs:List ad} {k clock:Nat} {m:List (Int×Int×Nat)} (h:ad.at bs k= .mp (m.map (ej iA)) clock) (u:Int) (v:Int):ay cfg (cfg.ti 135) (.bT k) (.int .i64 u) (.int .i64 v) bs=some (.aL [],.gQ k (.mp ((kW m clock u v).map (ej iA)) (gv m clock u))):=by
 have hf:=ji iA u m 0;unfold kW gv;cases hq:fw u m 0 with
 | none=>rw [hq] at hf;simp [ay,bH,fI,eY,gb,h,hf,-bh,ej,iA]
 | some p=>obtain ⟨j,e⟩:=p;obtain ⟨_,_,he⟩:=gZ u m 0 j e hq;rw [hq] at hf;simp [ay,bH,fI,eY,gb,h,hf,-bh,ej,iA,sameKey,gp,he,ko,-aaP]
theorem Qu {C:List ad} {n:Nat} (h:C.length=n):(∀l,(C++l)[n]?=l[0]?)∧(∀l,(C++l)[n+1]?=l[1]?)∧(∀l,(C++l)[n+1+1]?=l[2]?)∧(∀l,(C++l)[n+1+1+1]?=l[3]?)
  ∧(∀l X,(C++l).set n X=C++l.set 0 X)∧(∀l X,(C++l).set (n+1) X=C++l.set 1 X)∧(∀l X,(C++l).set (n+1+1) X=C++l.set 2 X)∧(∀l X,(C++l).set (n+1+1+1) X=C++l.set 3 X)
  ∧(∀l,ad.at (C++l) n=ad.at l 0)∧(∀l,ad.at (C++l) (n+1)=ad.at l 1)∧(∀l,ad.at (C++l) (n+1+1)=ad.at l 2)∧(∀l,ad.at (C++l) (n+1+1+1)=ad.at l 3)∧(∀l,(C++l).take n=C):=by
 subst h
 exact ⟨fun l=>by simpa using dZ C l 0,fun l=>dZ C l 1,fun l=>dZ C l 2,fun l=>dZ C l 3,
  fun l X=>by simpa using cX C l 0 X,fun l X=>cX C l 1 X,fun l X=>cX C l 2 X,fun l X=>cX C l 3 X,
  fun l=>by simpa using eC C l 0,fun l=>eC C l 1,fun l=>eC C l 2,fun l=>eC C l 3,fun l=>List.take_left' rfl⟩
theorem GH {C:List ad} {n:Nat} (h:C.length=n) (l:List ad):(C++l).take (n+3)=C++l.take 3:=by subst h;rw [List.take_append,List.take_of_length_le (by omega)];simp
theorem Ah (n:Nat):cK n∘ej AV.str=ej AV.str:=by funext e;simp [cK,ej,forget,AV.under]
theorem Ai (n:Nat):cK n∘ej iA=ej iA:=by funext e;simp [cK,ej,iA,forget,AV.under]
theorem MT (n:Nat) (m:List (Int×ae×Nat)):db n (m.map (ej .str))=true:=by
 induction m with
 | nil=>rfl
 | cons e r ih=>simp [db,ej,AV.under] at ih⊢;try exact ih
theorem MU (n:Nat) (m:List (Int×Int×Nat)):db n (m.map (ej iA))=true:=by
 induction m with
 | nil=>rfl
 | cons e r ih=>simp [db,ej,iA,AV.under] at ih⊢;try exact ih
theorem uk {σ:Type} (K:σ->List ad) (stp:σ->Sh×ae->σ) (Inv:Nat->σ->Prop) (n0:Nat) (hKl: ∀st,(K st).length=n0) (hKs: ∀st,shut n0 (K st)=true)
  (f:FuncId) (hns:vR f) (caps:List AV) (c:Ct) (hc:c.ok) (hlen:c.ao.length<=400)
  (hcu: ∀n,n0<=n->ar n caps=true) (hcL: ∀B,dC B caps=some caps) (hcP:ai caps=false)
  (hf: ∀i st s n J,i<c.ao.length->Inv i st->s∈c.ao->n.length<10000->shut (n0+J.length) J=true->aq cfg f (cj s:: .str n::caps) (K st++J)=some (.aL [],K (stp st (s,n))++J)∧Inv (i+1) (stp st (s,n)))
  (hInv: ∀i st,Inv i st->Inv (i+1) st) (root:Int) (st0:σ) (h0:Inv 0 st0):
  aq cfg 50 [b8 c,.int .i64 root,.fn f [] caps] (K st0)=some (.aL [],K ((bK Lib.itoa root ⟨[], []⟩ c.ao).foldl stp st0)):=by
 refine aa YV UN ?_;obtain ⟨n1,n2,n3,n4⟩:=hns;simp only [exts,qV,GF,iW] at n1 n2 n3 n4;have hE: ∀k (h:k<c.ao.length),(c.ao.map cj)[k]?=some (cj c.ao[k]):=fun k h=>get_map _ _ h;have hEl:(c.ao.map cj).length=c.ao.length:=by simp
 have hcsz:=hc.sz;unfold b8 eV;generalize aA c.af=L1 at*
 generalize c.aD.map fD=L2 at*
 generalize c.ao.map cj=L3 at*
 generalize c.sz=sz at*
 generalize c.ao=l at*
 have hk0:=hKl st0;have e1:n0+1-n0=1:=by omega
 have e2:n0+1+1-n0=2:=by omega
 have e3:n0+1+1+1-n0=3:=by omega
 obtain ⟨g0,g1,g2,g3,s0,s1,s2,s3,b0,b1,b2,b3,tk⟩:=Qu hk0;simp (maxSteps:=9^9) (disch:=omega) [-aaO,-aaP,-aaE,-getElem?_pos,-getElem?_neg,om,UO,ab,hEl,hk0,g0,g1,g2,g3,s0,s1,s2,s3,b0,b1,b2,b3,tk,gw,e1,e2,e3];clear g0 g1 g2 g3 s0 s1 s2 s3 b0 b1 b2 b3 tk hk0
 refine Wp.aP (fun (a:Nat×σ×(List (Int×ae×Nat)×Nat)×(List (Int×Int×Nat)×Nat))=>l.length-a.1) (fun a=> [none,some (.int .i64 root),some (.fn f [] caps),none,some (.bT (n0+1)),some (.bT (n0+1+1)),none,none,none,none,none,none,none,some (.ag c.sn sz L3),some (.int .i64 l.length),some (.int .i64 a.1),none,none,none,none,none,none,none,none,none,none,none,none])
  (fun a=>K a.2.1++ [.var 26 [.ag c.ln c.lz L1,.ag c.bn c.bz L2,.ag c.sn sz L3],.mp (a.2.2.1.1.map (ej .str)) a.2.2.1.2,.mp (a.2.2.2.1.map (ej iA)) a.2.2.2.2])
  (fun a=>(bK Lib.itoa root ⟨[], []⟩ l).foldl stp st0=(bK Lib.itoa root ⟨bq a.2.2.1.1,bq a.2.2.2.1⟩ (l.drop a.1)).foldl stp a.2.1∧a.1<=l.length∧Inv a.1 a.2.1
   ∧(∀u v,cw (bq a.2.2.1.1) u=some v->v.length<=22*(a.1+1))∧(∀u,0<=(cw (bq a.2.2.2.1) u).getD 0∧(cw (bq a.2.2.2.1) u).getD 0<=a.1)) ?_ (0,st0,([],0),([],0)) ⟨rfl,by omega,h0,by simp [bq,cw],by simp [bq,cw]⟩ (by simp) (by simp)
 rintro ⟨i,st,⟨m,cm⟩,⟨q,cq⟩⟩ ⟨hi,hil,hI,hm,hq⟩;simp only at hi hil hI hm hq⊢;have hcu3:=hcu (n0+3) (by omega);have hks:=hKs st;have hkm:=shut_map (aa0 _) hks;obtain ⟨g0,g1,g2,g3,s0,s1,s2,s3,b0,b1,b2,b3,tk⟩:=Qu (hKl st);by_cases h1:i<l.length
 ·have hk1:=hKl st;have look1: ∀(m:List (Int×ae×Nat)) cm b' l' u,bU cfg (cfg.ti 134) (.bT (n0+1)) (.int .i64 u) true (K st++(b':: .mp (m.map (ej .str)) cm::l'))=some (EK (bq m) u,.none):=fun m cm b' l' u=>MR (by rw [b1];rfl) u;have look2: ∀(m:List (Int×Int×Nat)) cm b' b'' l' u,bU cfg (cfg.ti 135) (.bT (n0+1+1)) (.int .i64 u) false (K st++(b'::b'':: .mp (m.map (ej iA)) cm::l'))=some (.int .i64 ((cw (bq m) u).getD 0),.none):=fun m cm b' b'' l' u=>MS (by rw [b2];rfl) u;have put1: ∀(m:List (Int×ae×Nat)) cm b' l' u v,ay cfg (cfg.ti 134) (.bT (n0+1)) (.int .i64 u) (.str v) (K st++(b':: .mp (m.map (ej .str)) cm::l'))=some (.aL [],.gQ (n0+1) (.mp ((kW m cm u v).map (ej .str)) (gv m cm u))):=fun m cm b' l' u v=>Qs (by rw [b1];rfl) u v;have eE: ∀(m:List (Int×Int×Nat)) cm b' b'' l' u v,ay cfg (cfg.ti 135) (.bT (n0+1+1)) (.int .i64 u) (.int .i64 v) (K st++(b'::b'':: .mp (m.map (ej iA)) cm::l'))=some (.aL [],.gQ (n0+1+1) (.mp ((kW m cm u v).map (ej iA)) (gv m cm u))):=fun m cm b' b'' l' u v=>Qt (by rw [b2];rfl) u v;simp only [Pf,Pg] at look1 look2 put1 eE;have hg:=hE i h1;have hsm:l[i]∈l:=List.getElem_mem h1;have hcl:=fun n J hn hJ=>hf i st l[i] n J h1 hI hsm hn hJ;obtain rfl:=hcsz (ne_of_lt h1);rw [List.drop_eq_getElem_cons h1] at hi;simp only [bK] at hi;clear hE hf;generalize l[i]=s at*
  unfold cj at hg hcl;have b3': ∀l,ad.at (K st++l) (n0+3)=ad.at l 3:=b3;have g3': ∀l,(K st++l)[n0+3]?=l[3]?:=g3;have s3': ∀l X,(K st++l).set (n0+3) X=K st++l.set 3 X:=s3
  have hJ: ∀(m:List (Int×ae×Nat)) (cm:Nat) (q:List (Int×Int×Nat)) (cq:Nat),shut (n0+4) [.var 26 [.ag c.ln c.lz L1,.ag c.bn c.bz L2,.ag c.sn 6 L3],.mp (m.map (ej .str)) cm,.mp (q.map (ej iA)) cq,.var 74 [.int .i64 s.unit,.int .i64 s.par,.int .i64 s.level,.str s.mark,.str s.title,.ag s.fn s.fz (s.facts.map eW)]]=true:=fun m cm q cq=>by
   simp [shut,ar,AV.under,MT,MU]
  by_cases hr:s.unit=root
  ·subst hr;have hst:eo Lib.itoa s.unit ⟨bq m,bq q⟩ s=⟨iY (bq m) s.unit [49],bq q⟩:=by unfold eo;rw [if_pos rfl]
   rw [hst] at hi;have hlk:cw (iY (bq m) s.unit [49]) s.unit=some [49]:=qd _ _ _;rw [hlk] at hi;simp only [aa2] at hi;have hlk2:EK (iY (bq m) s.unit [49]) s.unit= .aL [.str [49],.bool true]:=by unfold EK;rw [hlk]
   obtain ⟨hc1,hc2⟩:=hcl [49] [.var 26 [.ag c.ln c.lz L1,.ag c.bn c.bz L2,.ag c.sn 6 L3],.mp ((kW m cm s.unit [49]).map (ej .str)) (gv m cm s.unit),.mp (q.map (ej iA)) cq,.var 74 [.int .i64 s.unit,.int .i64 s.par,.int .i64 s.level,.str s.mark,.str s.title,.ag s.fn s.fz (s.facts.map eW)]] (by simp) (hJ _ _ _ _);have hk2:=hKl (stp st (s, [49]));have tk3:=GH hk2;have hkm2:=shut_map (show n0<=n0+3 by omega) (hKs (stp st (s, [49])));simp (maxSteps:=9^9) (disch:=omega) [-aaO,-aaP,-aaE,-getElem?_pos,-getElem?_neg,om,h1,hg,ab,hk1,g0,g1,g2,g3,s0,s1,s2,s3,b0,b1,b2,b3,tk,e1,e2,e3,look1,look2,put1,eE,n1,n2,n3,n4,hcL,hcP,b3',g3',s3',eD,hlk2,hc1,hk2,tk3,hkm2,Ah,Ai,hcu3];refine ⟨i+1,stp st (s, [49]),kW m cm s.unit [49],gv m cm s.unit,q,⟨by rw [eD];exact hi,by omega,hc2,?_,?_⟩,by omega,by omega,cq,rfl⟩
   ·intro u v hv;rw [eD,fJ] at hv;split at hv
    ·cases hv;simp;omega
    ·have:=hm u v hv;omega
   ·intro u;have:=hq u;omega
  ·cases hpar:cw (bq m) s.par with
   | none=>
    have hst:eo Lib.itoa root ⟨bq m,bq q⟩ s=⟨bq m,bq q⟩:=by unfold eo;rw [if_neg hr,hpar]
    rw [hst] at hi;have hlp:EK (bq m) s.par= .aL [.str [],.bool false]:=by unfold EK;rw [hpar]
    cases hun:cw (bq m) s.unit with
    | none=>
     rw [hun] at hi;have hlk2:EK (bq m) s.unit= .aL [.str [],.bool false]:=by unfold EK;rw [hun]
     have tk3:=GH hk1;have hkm2:=shut_map (show n0<=n0+3 by omega) hks;simp (maxSteps:=9^9) (disch:=omega) [-aaO,-aaP,-aaE,-getElem?_pos,-getElem?_neg,om,h1,hg,ab,hk1,g0,g1,g2,g3,s0,s1,s2,s3,b0,b1,b2,b3,tk,e1,e2,e3,look1,look2,put1,eE,n1,n2,n3,n4,hcL,hcP,b3',g3',s3',eD,Ah,Ai,hcu3,hr,hlk2,hlp,tk3,hkm2];refine ⟨i+1,st,m,cm,q,⟨hi,by omega,hInv _ _ hI,fun u v hv=>by have:=hm u v hv;omega,fun u=>by have:=hq u;omega⟩,by omega,by omega,cq,rfl⟩
    | some n=>
     rw [hun] at hi;simp only [aa2] at hi;have hlk2:EK (bq m) s.unit= .aL [.str n,.bool true]:=by unfold EK;rw [hun]
     obtain ⟨hc1,hc2⟩:=hcl n [.var 26 [.ag c.ln c.lz L1,.ag c.bn c.bz L2,.ag c.sn 6 L3],.mp (m.map (ej .str)) cm,.mp (q.map (ej iA)) cq,.var 74 [.int .i64 s.unit,.int .i64 s.par,.int .i64 s.level,.str s.mark,.str s.title,.ag s.fn s.fz (s.facts.map eW)]] (by have:=hm _ _ hun;omega) (hJ _ _ _ _);have hk2:=hKl (stp st (s,n));have tk3:=GH hk2;have hkm2:=shut_map (show n0<=n0+3 by omega) (hKs (stp st (s,n)));simp (maxSteps:=9^9) (disch:=omega) [-aaO,-aaP,-aaE,-getElem?_pos,-getElem?_neg,om,h1,hg,ab,hk1,g0,g1,g2,g3,s0,s1,s2,s3,b0,b1,b2,b3,tk,e1,e2,e3,look1,look2,put1,eE,n1,n2,n3,n4,hcL,hcP,b3',g3',s3',eD,Ah,Ai,hcu3,hr,hlk2,hlp,hc1,hk2,tk3,hkm2];refine ⟨i+1,stp st (s,n),m,cm,q,⟨hi,by omega,hc2,fun u v hv=>by have:=hm u v hv;omega,fun u=>by have:=hq u;omega⟩,by omega,by omega,cq,rfl⟩
   | some above=>
    have hxq:=hq s.par;generalize hx:(cw (bq q) s.par).getD 0=x at*
    have hst:eo Lib.itoa root ⟨bq m,bq q⟩ s=⟨iY (bq m) s.unit (above++46::Lib.itoa (x+1)),iY (bq q) s.par (x+1)⟩:=by unfold eo;rw [if_neg hr,hpar];simp [hx]
    rw [hst] at hi;have hal:=hm _ _ hpar;have hit:(Lib.itoa (x+1)).length<=21:=Lib.itoa_length_le (x+1) (by omega) (by omega);have hlp:EK (bq m) s.par= .aL [.str above,.bool true]:=by unfold EK;rw [hpar]
    have hw:IntKind.i64.wrap (x+1)=x+1:=wrap_i64 (by omega) (by omega);have hk3:(cw (iY (bq q) s.par (x+1)) s.par).getD 0=x+1:=by rw [qd];rfl
    have hid1: -9223372036854775808<=x+1:=by omega
    have hid2:x+1<=9223372036854775807:=by omega
    have hlk:cw (iY (bq m) s.unit (above++46::Lib.itoa (x+1))) s.unit=some (above++46::Lib.itoa (x+1)):=qd _ _ _;rw [hlk] at hi;simp only [aa2] at hi;have hlk2:EK (iY (bq m) s.unit (above++46::Lib.itoa (x+1))) s.unit= .aL [.str (above++46::Lib.itoa (x+1)),.bool true]:=by unfold EK;rw [hlk]
    generalize hit2:Lib.itoa (x+1)=it at*
    obtain ⟨hc1,hc2⟩:=hcl (above++46::it) [.var 26 [.ag c.ln c.lz L1,.ag c.bn c.bz L2,.ag c.sn 6 L3],.mp ((kW m cm s.unit (above++46::it)).map (ej .str)) (gv m cm s.unit),.mp ((kW q cq s.par (x+1)).map (ej iA)) (gv q cq s.par),.var 74 [.int .i64 s.unit,.int .i64 s.par,.int .i64 s.level,.str s.mark,.str s.title,.ag s.fn s.fz (s.facts.map eW)]] (by simp;omega) (hJ _ _ _ _);have hk2:=hKl (stp st (s,above++46::it));have tk3:=GH hk2;have hkm2:=shut_map (show n0<=n0+3 by omega) (hKs (stp st (s,above++46::it)));clear hlk hst;simp (maxSteps:=9^9) (disch:=omega) [-aaO,-aaP,-aaE,-getElem?_pos,-getElem?_neg,om,h1,hg,ab,hk1,g0,g1,g2,g3,s0,s1,s2,s3,b0,b1,b2,b3,tk,e1,e2,e3,look1,look2,put1,eE,n1,n2,n3,n4,hcL,hcP,b3',g3',s3',eD,Ah,Ai,hcu3,hr,hlk2,hlp,hx,hw,hk3,BO,hid1,hid2,hit2,hc1,hk2,tk3,hkm2];refine ⟨i+1,stp st (s,above++46::it),kW m cm s.unit (above++46::it),gv m cm s.unit,kW q cq s.par (x+1),⟨by rw [eD,eD];exact hi,by omega,hc2,?_,?_⟩,by omega,by omega,gv q cq s.par,rfl⟩
    ·intro u v hv;rw [eD,fJ] at hv;split at hv
     ·cases hv;simp;omega
     ·have:=hm u v hv;omega
    ·intro u;rw [eD,fJ];split
     ·simp;omega
     ·have:=hq u;omega
 ·rw [List.drop_eq_nil_of_le (by omega)] at hi;rw [show (bK Lib.itoa root ⟨bq m,bq q⟩ []).foldl stp st=st from rfl] at hi;rw [hi];have hk1:=hKl st;generalize K st=KS at*
  simp (maxSteps:=9^9) (disch:=omega) [-aaO,-aaP,-aaE,-getElem?_pos,-getElem?_neg,om,h1,tk,hkm,hk1]
end Go.Proofs.YtfgbpngakkhdcaaGreatDoor
