/- Escape and Unescape of markup: -/
import Derived.Test.YtfgbpngakkhdcaaGreatDoorIrs
open Bool renaming false->N
open Int renaming add_assoc->L,eq_ofNat_of_zero_le->I,toNat_natCast->Q
open List renaming length->Ê,getD_eq_getElem?_getD->w,getElem?_eq_getElem->K,length_append->O,length_cons->R,length_drop->S,map_replicate->A,map_set->B,take_length->M
open Nat renaming zero_add->U
open Option renaming none->G,some->H,map->W,map_some->V
open _root_ renaming Nat->P,Option->T,UInt8->J,getElem?_neg->F,getElem?_pos->C
set_option linter.all false
namespace Go.Proofs.YtfgbpngakkhdcaaGreatDoor
open Go.Am
set_option maxRecDepth 10000
set_option maxHeartbeats 4000000
def Of:ae:= [48,49,50,51,52,53,54,55,56,57,97,98,99,100,101,102]
theorem Rb:([48,49,50,51,52,53,54,55,56,57,97,98,99,100,101,102]:ae)=Of:=rfl
theorem F4:Ê Of=16:=rfl
def Tc (n:P):J:=Of.getD n 0
theorem Og {n:P} (h:n<16):Of[n]?=H (Tc n):=g9 (d:=Of) (by rw [F4];exact h)
theorem Rc (x:J):(x.toNat:Int).fdiv (2^min 4 IntKind.u8.bits)=((x.toNat / 16:P):Int):=by
 have h:(2:Int)^min 4 IntKind.u8.bits=16:=by decide
 rw [h,Int.fdiv_eq_ediv_of_nonneg _ (by omega)];rfl
theorem Re (x:J):IntKind.u8.wrap ((x.toNat%2^IntKind.u8.bits&&&15%2^IntKind.u8.bits:P):Int)=((x.toNat%16:P):Int):=by
 have hx:=x.toNat_lt;have h1:x.toNat%2^IntKind.u8.bits=x.toNat:=Nat.mod_eq_of_lt hx;have h2:15%2^IntKind.u8.bits=2^4-1:=by decide
 rw [h1,h2,Nat.and_two_pow_sub_one_eq_mod];exact wrap_u8 (by omega) (by omega)
def mi (c:J):ae:=
 if c.toNat=92 then [92,92] else if c.toNat=10 then [92,110] else if c.toNat=9 then [92,116]
 else if c.toNat<32\/126<c.toNat then [92,120,Tc (c.toNat / 16),Tc (c.toNat%16)] else [c]
def aB (s:ae):ae:=s.flatMap mi
theorem pV (c:J):1<=(mi c).length/\(mi c).length<=4:=by
 unfold mi;repeat' split
 all_goals simp
theorem zl (s t:ae):aB (s++t)=aB s++aB t:=by simp [aB]
theorem eM (s:ae):(aB s).length<=4*Ê s:=by
 induction s with
 | nil=>simp [aB]
 | cons c s ih=>have:=pV c;simp only [aB,List.flatMap_cons,O,R] at ih⊢;omega
theorem rh {s:ae} {i:P} (h:i<Ê s):s.take (i+1)=s.take i++ [s.getD i 0]:=by rw [List.take_add_one,K h];simp [w,K h]
theorem VG (l:ae) (hl:Ê l<1000000) (c:J):
  ar cfg 189 [.ptr 0 0,.int .u8 (c.toNat:Int)] [.var 218 [.aC 1 (Ê l)],.sl ⟨N,H 5,G⟩ 1 (l.map aq)]=
   H (.aK [], [.var 218 [.aC 1 (l++mi c).length],.sl ⟨N,H 5,G⟩ 1 ((l++mi c).map aq)]):=by
 refine aa aan VH ?_;have hc:=c.toNat_lt;unfold mi;by_cases h1:c.toNat=92
 ·simp (maxSteps:=9^9) (disch:=omega) [-A,-B,-w,-C,-F,om,BE,h1,ab,aq]
 by_cases h2:c.toNat=10
 ·simp (maxSteps:=9^9) (disch:=omega) [-A,-B,-w,-C,-F,om,BE,h2,ab,aq]
 by_cases h3:c.toNat=9
 ·simp (maxSteps:=9^9) (disch:=omega) [-A,-B,-w,-C,-F,om,BE,h3,ab,aq]
 by_cases h4:c.toNat<32\/126<c.toNat
 ·have h5:((c.toNat:Int)<32\/126<(c.toNat:Int)):=by omega
  simp (maxSteps:=9^9) (disch:=omega) [-A,-B,-w,-C,-F,om,BE,h1,h2,h3,h4,h5,ab,aq,Rc,Re,Rb,Og]
 ·have h5: ¬ ((c.toNat:Int)<32\/126<(c.toNat:Int)):=by omega
  simp (maxSteps:=9^9) (disch:=omega) [-A,-B,-w,-C,-F,om,BE,h1,h2,h3,h4,h5,ab,aq]
theorem xj (s:ae) (hs:Ê s<200000):ar cfg 152 [.str s] []=H (.str (aB s), []):=by
 refine aa aao VI ?_;simp (maxSteps:=9^9) (disch:=omega) [-A,-B,-w,-C,-F,om,j6,Td]
 refine Wp.az (fun i=>Ê s-i) (fun (i:P)=> [H (.str s),G,H (.ptr 0 0),H (.fn 189 [.ptr 0 0] []),G,G,G,G,H (.int .i64 (Ê s)),H (.int .i64 i),G])
  (fun i=> [.var 218 [.aC 1 (aB (s.take i)).length],.sl ⟨N,H 5,G⟩ 1 ((aB (s.take i)).map aq)]) (fun i=>i<=Ê s) ?_ 0 (by omega) (by simp) (by simp [aB])
 intro i hi;by_cases h1:i<Ê s
 ·have hg:=g9 h1;have hT:=rh h1;have hE:aB (s.take (i+1))=aB (s.take i)++mi (s.getD i 0):=by rw [hT,zl];simp [aB]
  have hl:=eM (s.take i);have ă:(s.take i).length<=Ê s:=by simp;omega
  generalize s.getD i 0=c at hg hE;have ha:=VG (aB (s.take i)) (by omega) c;rw [<-hE] at ha;generalize aB (s.take i)=E at ha hE hl⊢;simp (maxSteps:=9^9) (disch:=omega) [-A,-B,-w,-C,-F,om,hg,ha];exact ⟨i+1,by omega,by omega,by omega,rfl,rfl⟩
 ·obtain rfl:i=Ê s:=by omega
  rw [M];simp (maxSteps:=9^9) (disch:=omega) [-A,-B,-w,-C,-F,om,j6,aD.descOf]
theorem F5 (n:P) (hn:n<16):ar cfg 206 [.int .u8 (n:Int)] []=H (.int .u8 ((Tc n).toNat:Int), []):=by
 have h: ∀n,n<16->((Tc n).toNat:Int)=if n<10 then 48+(n:Int) else 87+(n:Int):=by decide+kernel
 refine aa aap VJ ?_;rw [h n hn];by_cases h1:n<10
 ·simp (maxSteps:=9^9) (disch:=omega) [-A,-B,-w,-C,-F,om,Oh,wrap_u8,h1]
 ·simp (maxSteps:=9^9) (disch:=omega) [-A,-B,-w,-C,-F,om,Oh,wrap_u8,h1]
theorem xl (s:ae) (hs:Ê s<200000):ar cfg 173 [.str s] []=H (.str (aB s), []):=by
 refine aa aaq VK ?_;simp (maxSteps:=9^9) (disch:=omega) [-A,-B,-w,-C,-F,om,j6,Te]
 refine Wp.az (fun i=>Ê s-i) (fun (i:P)=> [H (.str s),G,H (.str (aB (s.take i))),H (.int .i64 i),G,G,G,G,G,G,G,G,G,G])
  (fun i=> []) (fun i=>i<=Ê s) ?_ 0 (by omega) (by simp [aB]) rfl
 intro i hi;by_cases h1:i<Ê s
 ·have hg:=g9 h1;have hT:=rh h1;have hE:aB (s.take (i+1))=aB (s.take i)++mi (s.getD i 0):=by rw [hT,zl];simp [aB]
  have hl:=eM (s.take i);have ă:(s.take i).length<=Ê s:=by simp;omega
  have hc:=(s.getD i 0).toNat_lt;generalize s.getD i 0=c at hg hE hc;generalize aB (s.take i)=E at hE hl⊢;have fin: ∀X:ae,X=mi c-> ∃a,a<=Ê s/\Ê s-a<Ê s-i/\E++X=aB (s.take a)/\(i:Int)+1=a:=fun X hX=>⟨i+1,by omega,by omega,by rw [hE,hX],by omega⟩;unfold mi at fin;by_cases h1:c.toNat=92
  ·simp (maxSteps:=9^9) (disch:=omega) [-A,-B,-w,-C,-F,om,hg,h1];exact fin _ (by simp [h1])
  by_cases h2:c.toNat=10
  ·simp (maxSteps:=9^9) (disch:=omega) [-A,-B,-w,-C,-F,om,hg,h2];exact fin _ (by simp [h2])
  by_cases h3:c.toNat=9
  ·simp (maxSteps:=9^9) (disch:=omega) [-A,-B,-w,-C,-F,om,hg,h3];exact fin _ (by simp [h3])
  have d1:ar cfg 206 [.int .u8 ((c.toNat:Int) / 16)] []=_:=F5 (c.toNat / 16) (by omega);have d2:ar cfg 206 [.int .u8 ((c.toNat:Int)%16)] []=_:=F5 (c.toNat%16) (by omega);by_cases h4:c.toNat<32\/126<c.toNat
  ·have h5:((c.toNat:Int)<32\/126<(c.toNat:Int)):=by omega
   have e1:IntKind.u8.wrap ((c.toNat:Int) / 16)=(c.toNat:Int) / 16:=wrap_u8 (by omega) (by omega);simp (maxSteps:=9^9) (disch:=omega) [-A,-B,-w,-C,-F,om,hg,h1,h2,h3,h4,h5,e1,d1,d2,aD.descOf];exact fin _ (by simp [h1,h2,h3,h4])
  ·have h5: ¬ ((c.toNat:Int)<32\/126<(c.toNat:Int)):=by omega
   simp (maxSteps:=9^9) (disch:=omega) [-A,-B,-w,-C,-F,om,hg,h1,h2,h3,h4,h5,aD.descOf];exact fin _ (by simp [h1,h2,h3,h4])
 ·obtain rfl:i=Ê s:=by omega
  rw [M];simp (maxSteps:=9^9) (disch:=omega) [-A,-B,-w,-C,-F,om,j6]
def xm (c:J):Int:=if 48<=c.toNat/\c.toNat<=57 then (c.toNat:Int)-48 else if 97<=c.toNat/\c.toNat<=102 then (c.toNat:Int)-87 else -1
theorem Dl (c:J): -1<=xm c/\xm c<16:=by
 unfold xm;split
 ·omega
 ·split <;> omega
theorem Dm (c:J):ar cfg 236 [.int .u8 (c.toNat:Int)] []=H (.int .i64 (xm c), []):=by
 refine aa aar VL ?_;have hc:=c.toNat_lt;unfold xm;generalize c.toNat=n at hc;by_cases h1:48<=n/\n<=57
 ·simp (maxSteps:=9^9) (disch:=omega) [-A,-B,-w,-C,-F,om,JP,h1,wrap_u8]
 by_cases h2:97<=n/\n<=102
 ·simp (maxSteps:=9^9) (disch:=omega) [-A,-B,-w,-C,-F,om,JP,h1,h2,wrap_u8]
 ·have k1: ¬ ((48:Int)<=n/\(n:Int)<=57):=by omega
  have k2: ¬ ((97:Int)<=n/\(n:Int)<=102):=by omega
  simp (maxSteps:=9^9) (disch:=omega) [-A,-B,-w,-C,-F,om,JP,h1,h2,k1,k2,wrap_u8]
theorem zm (c:J):ar cfg 214 [.int .u8 (c.toNat:Int)] []=H (.int .i64 (xm c), []):=by
 refine aa aas VM ?_;have hc:=c.toNat_lt;unfold xm;generalize c.toNat=n at hc;by_cases h1:48<=n/\n<=57
 ·simp (maxSteps:=9^9) (disch:=omega) [-A,-B,-w,-C,-F,om,JQ,h1,wrap_u8]
 by_cases h2:97<=n/\n<=102
 ·simp (maxSteps:=9^9) (disch:=omega) [-A,-B,-w,-C,-F,om,JQ,h1,h2,wrap_u8]
 ·have k1: ¬ ((48:Int)<=n/\(n:Int)<=57):=by omega
  have k2: ¬ ((97:Int)<=n/\(n:Int)<=102):=by omega
  simp (maxSteps:=9^9) (disch:=omega) [-A,-B,-w,-C,-F,om,JQ,h1,h2,k1,k2,wrap_u8]
theorem VN (a b:Int) (ha:0<=a/\a<16) (hb:0<=b/\b<16):IntKind.u8.wrap (IntKind.i64.wrap (((IntKind.i64.wrap (a*2^min 4 IntKind.i64.bits)%2^IntKind.i64.bits).toNat ||| (b%2^IntKind.i64.bits).toNat:P):Int))=((UInt8.ofNat (16*a.toNat+b.toNat)).toNat:Int):=by
 obtain ⟨n,rfl⟩:=I ha.1;obtain ⟨m,rfl⟩:=I hb.1;have h: ∀n:P,n<16-> ∀m:P,m<16->(IntKind.u8.wrap (IntKind.i64.wrap (((IntKind.i64.wrap ((n:Int)*2^min 4 IntKind.i64.bits)%2^IntKind.i64.bits).toNat ||| ((m:Int)%2^IntKind.i64.bits).toNat:P):Int)))=((UInt8.ofNat (16*n+m)).toNat:Int):=by decide+kernel
 simp only [Q];rw [h n (by omega) m (by omega)]
theorem VO (a b:Int) (ha:0<=a/\a<16) (hb:0<=b/\b<16):IntKind.u8.wrap (16*a+b)=((UInt8.ofNat (16*a.toNat+b.toNat)).toNat:Int):=by
 obtain ⟨n,rfl⟩:=I ha.1;obtain ⟨m,rfl⟩:=I hb.1;have h: ∀n:P,n<16-> ∀m:P,m<16->(IntKind.u8.wrap (16*(n:Int)+(m:Int)))=((UInt8.ofNat (16*n+m)).toNat:Int):=by decide+kernel
 simp only [Q];rw [h n (by omega) m (by omega)]
def pc (s:ae) (i:P):T (J×P):=
 if (s.getD i 0).toNat≠92 then H (s.getD i 0,1)
 else if (Ê s)<=i+1 then G
 else if (s.getD (i+1) 0).toNat=92 then H (92,2)
 else if (s.getD (i+1) 0).toNat=110 then H (10,2)
 else if (s.getD (i+1) 0).toNat=116 then H (9,2)
 else if (s.getD (i+1) 0).toNat=120/\i+3<Ê s/\0<=xm (s.getD (i+2) 0)/\0<=xm (s.getD (i+3) 0) then H (UInt8.ofNat (16*(xm (s.getD (i+2) 0)).toNat+(xm (s.getD (i+3) 0)).toNat),4)
 else G
theorem Dn {s:ae} {i:P} {c:J} {n:P} (h:pc s i=H (c,n)) (hi:i<Ê s):1<=n/\i+n<=Ê s:=by
 unfold pc at h
 repeat' split at h
 all_goals first
  | cases h;done
  | (cases h;omega)
def Im (s:ae):AV:=match pc s 0 with
 | some (c,n)=> .aK [.int .u8 (c.toNat:Int),.int .i64 n]
 | none=> .aK [.int .u8 0,.int .i64 0]
theorem Oi (s:ae) (hs:s≠ []):ar cfg 213 [.str s] []=H (Im s, []):=by
 refine aa aat VP ?_;have hl:=List.length_pos_iff.2 hs;have g0:=g9 (d:=s) (i:=0) (by omega);unfold Im pc;generalize s.getD 0 0=c0 at g0;by_cases h1:c0.toNat=92
 ·by_cases h2:Ê s<=1
  ·simp (maxSteps:=9^9) (disch:=omega) [-A,-B,-w,-C,-F,om,pW,g0,h1]
  ·have g1:=g9 (d:=s) (i:=1) (by omega);simp only [U];generalize s.getD 1 0=c1 at g1;by_cases k1:c1.toNat=92
   ·simp (maxSteps:=9^9) (disch:=omega) [-A,-B,-w,-C,-F,om,pW,g0,g1,h1,k1]
   by_cases k2:c1.toNat=110
   ·simp (maxSteps:=9^9) (disch:=omega) [-A,-B,-w,-C,-F,om,pW,g0,g1,h1,k1,k2]
   by_cases k3:c1.toNat=116
   ·simp (maxSteps:=9^9) (disch:=omega) [-A,-B,-w,-C,-F,om,pW,g0,g1,h1,k1,k2,k3]
   by_cases k4:c1.toNat=120
   ·by_cases h3:Ê s<4
    ·simp (maxSteps:=9^9) (disch:=omega) [-A,-B,-w,-C,-F,om,pW,g0,g1,h1,k1,k2,k3,k4]
    ·have g2:=g9 (d:=s) (i:=2) (by omega);have g3:=g9 (d:=s) (i:=3) (by omega);generalize s.getD 2 0=c2 at g2;generalize s.getD 3 0=c3 at g3;have e2:=Dl c2;have e3:=Dl c3;by_cases k5:0<=xm c2
     ·by_cases k6:0<=xm c3
      ·have b2:=VN (xm c2) (xm c3) ⟨k5,e2.2⟩ ⟨k6,e3.2⟩;simp (maxSteps:=9^9) (disch:=omega) [-A,-B,-w,-C,-F,om,pW,g0,g1,g2,g3,h1,k1,k2,k3,k4,k5,k6,Dm,b2]
      ·simp (maxSteps:=9^9) (disch:=omega) [-A,-B,-w,-C,-F,om,pW,g0,g1,g2,g3,h1,k1,k2,k3,k4,k5,k6,Dm]
     ·simp (maxSteps:=9^9) (disch:=omega) [-A,-B,-w,-C,-F,om,pW,g0,g1,g2,g3,h1,k1,k2,k3,k4,k5,Dm]
   ·simp (maxSteps:=9^9) (disch:=omega) [-A,-B,-w,-C,-F,om,pW,g0,g1,h1,k1,k2,k3,k4]
 ·simp (maxSteps:=9^9) (disch:=omega) [-A,-B,-w,-C,-F,om,pW,g0,h1]
def DK (s:ae) (i:P) (out:ae):T ae:=
 if hi:i<Ê s then
  match hp:pc s i with
  | none=>G
  | some (c,n)=>DK s (i+n) (out++ [c])
 else H out
termination_by (Ê s)-i
decreasing_by
 have:=Dn hp hi;omega
theorem Dp {s:ae} {i:P} {out:ae} (h: ¬ i<Ê s):DK s i out=H out:=by rw [DK,dif_neg h]
theorem F6 {s:ae} {i:P} {out:ae} (h:i<Ê s) (hp:pc s i=G):DK s i out=none:=by
 rw [DK,dif_pos h];split
 ·rfl
 ·rename_i h2;rw [hp] at h2;cases h2
theorem zn {s:ae} {i:P} {out:ae} {c:J} {n:P} (h:i<Ê s) (hp:pc s i=H (c,n)):DK s i out=DK s (i+n) (out++ [c]):=by
 rw [DK,dif_pos h];split
 ·rename_i h2;rw [hp] at h2;cases h2
 ·rename_i h2;rw [hp] at h2;cases h2;rfl
def jG (s:ae):AV:=match DK s 0 [] with
 | some t=>if aB t=s then .aK [.str t,.bool true] else .aK [.str [],.bool N]
 | none=> .aK [.str [],.bool N]
theorem Lx (s:ae) (i j:P):(s.drop i).getD j 0=s.getD (i+j) 0:=by simp [w]
theorem JR (s:ae) (i:P) (hi:i<Ê s):pc (s.drop i) 0=pc s i:=by
 have e:((s.drop i).length<=1)=(Ê s<=i+1):=by rw [S];apply propext;omega
 have e3:(3<(s.drop i).length)=(i+3<Ê s):=by rw [S];apply propext;omega
 unfold pc;simp only [Lx,Nat.add_zero,U,e,e3]
theorem Vz (s:ae) (hs:Ê s<190000):ar cfg 181 [.str s] []=H (jG s, []):=by
 refine aa aau VQ ?_;simp (maxSteps:=9^9) (disch:=omega) [-A,-B,-w,-C,-F,om,j6,Tf]
 refine Wp.az (fun (a:P×ae)=>Ê s-a.1) (fun a=> [H (.str s),G,G,H (.aC 0 a.2.length),H (.int .i64 a.1),G,G,G,G,G,G,G,G,G,G])
  (fun a=> [.sl ⟨N,H 5,G⟩ 1 (a.2.map aq)]) (fun a=>a.1<=Ê s/\a.2.length<=a.1/\DK s a.1 a.2=DK s 0 []) ?_ (0, []) ⟨by simp,by simp,rfl⟩ (by simp) (by simp)
 rintro ⟨i,out⟩ ⟨hi,ho,hu⟩;simp only at hi ho hu⊢;by_cases h1:i<Ê s
 ·have hp:=Oi (s.drop i) (by simp;omega);unfold Im at hp;rw [JR s i h1] at hp;have e1:(s.take (Ê s)).drop i=s.drop i:=by rw [M]
  cases hc:pc s i with
  | none=>
   rw [hc] at hp
   have hU:jG s= .aK [.str [],.bool N]:=by unfold jG;rw [<-hu,F6 h1 hc]
   simp (maxSteps:=9^9) (disch:=omega) [-A,-B,-w,-C,-F,om,hp,hU]
  | some p=>obtain ⟨c,n⟩:=p;rw [hc] at hp;have hn:=Dn hc h1;simp (maxSteps:=9^9) (disch:=omega) [-A,-B,-w,-C,-F,om,hp];refine ⟨i+n,out++ [c],⟨by omega,by simp;omega,by rw [<-zn h1 hc,hu]⟩,by omega,by simp [aq]⟩
 ·obtain rfl:i=Ê s:=by omega
  rw [Dp h1] at hu;have he:=xj out (by omega)
  have hU:jG s=if aB out=s then .aK [.str out,.bool true] else .aK [.str [],.bool N]:=by unfold jG;rw [<-hu]
  by_cases h2:aB out=s
  ·simp (maxSteps:=9^9) (disch:=omega) [-A,-B,-w,-C,-F,om,he,hU,h2,aD.descOf]
  ·simp (maxSteps:=9^9) (disch:=omega) [-A,-B,-w,-C,-F,om,he,hU,h2,aD.descOf]
theorem Dq (n:P) (b:List af) (v:AV):(gx n b v).under n=true:=by
 unfold gx;split
 ·assumption
 ·split
  ·split
   ·assumption
   ·rfl
  ·rfl
theorem nk (k:List P) (n i:P) (b:List af) (x:T AV) (r:List (T AV)):fU k n i (W (gx n b) x::r)=fU k n (i+1) r:=by
 cases x with
 | none=>rfl
 | some v=>simp only [V,fU,Dq,Bool.true_or,Bool.true_and]
theorem VR (s:ae) (hs:Ê s<190000):ar cfg 183 [.str s] []=H (jG s, []):=by
 refine aa aav VS ?_;simp (maxSteps:=9^9) (disch:=omega) [-A,-B,-w,-C,-F,om,j6,Tg]
 refine Wp.az (fun (a:P×ae×T AV×T AV)=>Ê s-a.1) (fun a=> [H (.str s),G,G,H (.aC 0 a.2.1.length),H (.int .i64 a.1),G,G,G,G,G,G,G,G,G,G,G,G,G,G,G,a.2.2.1,a.2.2.2,G,G,G,G,G,G,G])
  (fun a=> [.sl ⟨N,H 5,G⟩ 1 (a.2.1.map aq)]) (fun a=>a.1<=Ê s/\a.2.1.length<=a.1/\DK s a.1 a.2.1=DK s 0 []/\ ∀k i r,fU k 1 i (a.2.2.1::a.2.2.2::r)=fU k 1 (i+2) r) ?_ (0, [],G,G) ⟨by simp,by simp,rfl,fun k i r=>by simp⟩ (by simp) (by simp)
 rintro ⟨i,out,x,y⟩ ⟨hi,ho,hu,Ă⟩;simp only at hi ho hu Ă⊢;by_cases h1:i<Ê s
 ·have g0:=g9 h1
  have Ā:pc s i=none->jG s= .aK [.str [],.bool N]:=fun hc=>by
   unfold jG;rw [<-hu,F6 h1 hc]
  have ā: ∀c n,pc s i=H (c,n)->i+n<=Ê s/\1<=n/\DK s (i+n) (out++ [c])=DK s 0 []:=fun c n hc=>⟨(Dn hc h1).2,(Dn hc h1).1,by rw [<-zn h1 hc,hu]⟩;unfold pc at Ā ā;generalize s.getD i 0=c0 at g0 Ā ā;by_cases k0:c0.toNat=92
  ·by_cases h2:Ê s<=i+1
   ·have hU:=Ā (by simp [k0,h2]);simp (maxSteps:=9^9) (disch:=omega) [-A,-B,-w,-C,-F,om,Ă,g0,k0,hU]
   ·have g1:=g9 (d:=s) (i:=i+1) (by omega);have t1:((i:Int)+1).toNat=i+1:=by omega
    generalize s.getD (i+1) 0=c1 at g1 Ā ā;by_cases k1:c1.toNat=92
    ·obtain ⟨q1,q2,q3⟩:=ā 92 2 (by simp [k0,h2,k1]);simp (maxSteps:=9^9) (disch:=omega) [-A,-B,-w,-C,-F,om,Ă,g0,k0,t1,g1,k1];refine ⟨i+2,out++ [92],_,_,⟨by omega,by simp;omega,q3,fun k i r=> ?_⟩,by omega,⟨by simp,by omega,rfl,rfl⟩,by simp [aq]⟩;simp [nk,fU,AV.under]
    by_cases k2:c1.toNat=110
    ·obtain ⟨q1,q2,q3⟩:=ā 10 2 (by simp [k0,h2,k1,k2]);simp (maxSteps:=9^9) (disch:=omega) [-A,-B,-w,-C,-F,om,Ă,g0,k0,t1,g1,k1,k2];refine ⟨i+2,out++ [10],_,_,⟨by omega,by simp;omega,q3,fun k i r=> ?_⟩,by omega,⟨by simp,by omega,rfl,rfl⟩,by simp [aq]⟩;simp [nk,fU,AV.under]
    by_cases k3:c1.toNat=116
    ·obtain ⟨q1,q2,q3⟩:=ā 9 2 (by simp [k0,h2,k1,k2,k3]);simp (maxSteps:=9^9) (disch:=omega) [-A,-B,-w,-C,-F,om,Ă,g0,k0,t1,g1,k1,k2,k3];refine ⟨i+2,out++ [9],_,_,⟨by omega,by simp;omega,q3,fun k i r=> ?_⟩,by omega,⟨by simp,by omega,rfl,rfl⟩,by simp [aq]⟩;simp [nk,fU,AV.under]
    by_cases k4:c1.toNat=120
    ·by_cases h3:i+3<Ê s
     ·have g2:=g9 (d:=s) (i:=i+2) (by omega);have g3:=g9 (d:=s) (i:=i+3) h3;have t2:((i:Int)+2).toNat=i+2:=by omega
      have t3:((i:Int)+3).toNat=i+3:=by omega
      generalize s.getD (i+2) 0=c2 at g2 Ā ā;generalize s.getD (i+3) 0=c3 at g3 Ā ā;have e2:=Dl c2;have e3:=Dl c3;by_cases k5:0<=xm c2
      ·by_cases k6:0<=xm c3
       ·obtain ⟨q1,q2,q3⟩:=ā (UInt8.ofNat (16*(xm c2).toNat+(xm c3).toNat)) 4 (by simp [k0,h2,k1,k2,k3,k4,h3,k5,k6]);have b3:=VO (xm c2) (xm c3) ⟨k5,e2.2⟩ ⟨k6,e3.2⟩;simp (maxSteps:=9^9) (disch:=omega) [-A,-B,-w,-C,-F,om,Ă,g0,k0,t1,g1,k1,k2,k3,k4,t2,t3,g2,g3,zm,k5,k6,b3,L];refine ⟨i+4,out++ [UInt8.ofNat (16*(xm c2).toNat+(xm c3).toNat)],_,_,⟨by omega,by simp;omega,q3,fun k i r=> ?_⟩,by omega,⟨by simp,by omega,rfl,rfl⟩,by simp [aq]⟩;simp [nk,fU,AV.under]
       ·have hU:=Ā (by simp [k0,h2,k1,k2,k3,k4,h3,k5,k6]);simp (maxSteps:=9^9) (disch:=omega) [-A,-B,-w,-C,-F,om,Ă,g0,k0,t1,g1,k1,k2,k3,k4,t2,t3,g2,g3,zm,k5,k6,hU,L]
      ·have hU:=Ā (by simp [k0,h2,k1,k2,k3,k4,h3,k5]);simp (maxSteps:=9^9) (disch:=omega) [-A,-B,-w,-C,-F,om,Ă,g0,k0,t1,g1,k1,k2,k3,k4,t2,t3,g2,g3,zm,k5,hU,L]
     ·have hU:=Ā (by simp [k0,h2,k1,k2,k3,k4,h3]);simp (maxSteps:=9^9) (disch:=omega) [-A,-B,-w,-C,-F,om,Ă,g0,k0,t1,g1,k1,k2,k3,k4,hU,L]
    ·have hU:=Ā (by simp [k0,h2,k1,k2,k3,k4]);have Ą:((c1.toNat:Int)==120)=false:=by rw [beq_eq_false_iff_ne];omega
     simp (maxSteps:=9^9) (disch:=omega) [-A,-B,-w,-C,-F,om,Ă,g0,k0,t1,g1,k1,k2,k3,Ą,hU]
  ·obtain ⟨q1,q2,q3⟩:=ā c0 1 (by simp [k0]);simp (maxSteps:=9^9) (disch:=omega) [-A,-B,-w,-C,-F,om,Ă,g0,k0];refine ⟨i+1,out++ [c0],_,_,⟨by omega,by simp;omega,q3,fun k i r=> ?_⟩,by omega,⟨by simp,by omega,rfl,rfl⟩,by simp [aq]⟩;simp [nk,fU,AV.under]
 ·obtain rfl:i=Ê s:=by omega
  rw [Dp h1] at hu;have he:=xl out (by omega)
  have hU:jG s=if aB out=s then .aK [.str out,.bool true] else .aK [.str [],.bool N]:=by unfold jG;rw [<-hu]
  by_cases h2:aB out=s
  ·simp (maxSteps:=9^9) (disch:=omega) [-A,-B,-w,-C,-F,om,he,hU,h2,aD.descOf]
  ·simp (maxSteps:=9^9) (disch:=omega) [-A,-B,-w,-C,-F,om,he,hU,h2,aD.descOf]
def ag (s:ae):T ae:=match DK s 0 [] with
 | some t=>if aB t=s then H t else G
 | none=>G
theorem Bx (s:ae):jG s=match ag s with | some t=> .aK [.str t,.bool true] | none=> .aK [.str [],.bool N]:=by
 unfold jG ag;cases DK s 0 [] with
 | none=>rfl
 | some t=>simp only;split <;> rfl
theorem BF: ∀n,n<16->32<=(Tc n).toNat/\(Tc n).toNat<=126:=by decide+kernel
theorem JS: ∀n,n<16->xm (Tc n)=(n:Int):=by decide+kernel
theorem Io (c x:J) (h:x∈mi c):32<=x.toNat/\x.toNat<=126:=by
 have hc:=c.toNat_lt;have d1:=BF (c.toNat / 16) (by omega);have d2:=BF (c.toNat%16) (by omega);unfold mi at h;split at h
 ·simp at h;subst h;decide
 split at h
 ·simp at h;rcases h with rfl | rfl <;> decide
 split at h
 ·simp at h;rcases h with rfl | rfl <;> decide
 split at h
 ·simp at h;rcases h with rfl | rfl | rfl | rfl
  ·decide
  ·decide
  ·exact d1
  ·exact d2
 ·simp at h;subst h;omega
theorem Ly {s:ae} {x:J} (h:x∈aB s):32<=x.toNat/\x.toNat<=126:=by unfold aB at h;rw [List.mem_flatMap] at h;obtain ⟨c,_,h2⟩:=h;exact Io c x h2
theorem Rf (c:J) (r:ae):pc (mi c++r) 0=H (c,(mi c).length):=by
 have hc:=c.toNat_lt;unfold mi;split
 ·rename_i h;have:c=92:=UInt8.toNat_inj.1 h;subst this;simp [pc]
 split
 ·rename_i h;have:c=10:=UInt8.toNat_inj.1 h;subst this;simp [pc]
 split
 ·rename_i h;have:c=9:=UInt8.toNat_inj.1 h;subst this;simp [pc]
 split
 ·have d1:=JS (c.toNat / 16) (by omega);have d2:=JS (c.toNat%16) (by omega);have e:16*(c.toNat / 16)+c.toNat%16=c.toNat:=by omega
  simp [pc,d1,d2];have e1:((c.toNat:Int) / 16).toNat=c.toNat / 16:=by omega
  have e2:((c.toNat:Int)%16).toNat=c.toNat%16:=by omega
  have e3:UInt8.ofNat (16*(c.toNat / 16)+c.toNat%16)=c:=by rw [e];simp
  simpa using e3
 ·rename_i h _ _ _;simp [pc,h]
theorem JT: ∀(s a out:ae),DK (a++aB s) (Ê a) out=H (out++s)
 | [],a,out=>by
  rw [Dp (by simp [aB])];simp
 | c::s,a,out=>by
  have hs:aB (c::s)=mi c++aB s:=by simp [aB]
  have hl:=pV c;rw [hs]
  have hp:pc (a++(mi c++aB s)) (Ê a)=H (c,(mi c).length):=by rw [<-JR _ _ (by simp;omega)];simp only [List.drop_left];exact Rf c _
  rw [zn (by simp;omega) hp,<-List.append_assoc,<-O,JT s (a++mi c) (out++ [c])];simp
theorem Dr (s:ae):ag (aB s)=H s:=by unfold ag;have h:=JT s [] [];simp only [List.nil_append,List.length_nil] at h;rw [h];simp
theorem Dt {s t:ae} (h:ag s=H t):aB t=s:=by
 unfold ag at h;split at h
 ·split at h
  ·rename_i h2;cases h;exact h2
  ·cases h
 ·cases h
theorem VT {s:ae} {c:J} (hc:c.toNat<32):c∉aB s:=fun h=>by
 have:=(Ly h).1;omega
theorem Q9 {s t:ae} (h:ag s=H t):Ê t<=Ê s:=by
 rw [<-Dt h];unfold aB;rw [List.length_flatMap]
 have: ∀l:ae,Ê l<=(l.map fun c=>(mi c).length).sum:=by
  intro l
  induction l with
  | nil=>simp
  | cons c l ih=>have:=(pV c).1;simp only [R,List.map_cons,List.sum_cons];omega
 exact this t
