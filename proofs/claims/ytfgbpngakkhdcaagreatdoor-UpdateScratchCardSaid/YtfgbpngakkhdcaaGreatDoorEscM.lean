/- Escape and Unescape of markup: -/
import Derived.Test.YtfgbpngakkhdcaaGreatDoorIrs
open Int renaming eq_ofNat_of_zero_le->acJ
open List renaming getD_eq_getElem?_getD->aaE,getElem?_eq_getElem->aaF,length_append->aba,length_cons->aaH,length_drop->abb,map_replicate->aaO,map_set->aaP,take_length->adn
open Nat renaming zero_add->abz
set_option linter.all false
namespace Go.Proofs.YtfgbpngakkhdcaaGreatDoor
open Go.Am
set_option maxRecDepth 10000
set_option maxHeartbeats 4000000
def Lz:ae:= [48,49,50,51,52,53,54,55,56,57,97,98,99,100,101,102]
theorem Ot:([48,49,50,51,52,53,54,55,56,57,97,98,99,100,101,102]:ae)=Lz:=rfl
theorem Ed:Lz.length=16:=rfl
def Ul (n:Nat):UInt8:=Lz.getD n 0
theorem LB {n:Nat} (h:n<16):Lz[n]?=some (Ul n):=o9 (d:=Lz) (by rw [Ed];exact h)
theorem Ou (x:UInt8):(x.toNat:Int).fdiv (2^min 4 IntKind.u8.bits)=((x.toNat / 16:Nat):Int):=by
 have h:(2:Int)^min 4 IntKind.u8.bits=16:=by decide
 rw [h,Int.fdiv_eq_ediv_of_nonneg _ (by omega)];rfl
theorem Ov (x:UInt8):IntKind.u8.wrap ((x.toNat%2^IntKind.u8.bits&&&15%2^IntKind.u8.bits:Nat):Int)=((x.toNat%16:Nat):Int):=by
 have hx:=x.toNat_lt;have h1:x.toNat%2^IntKind.u8.bits=x.toNat:=Nat.mod_eq_of_lt hx;have h2:15%2^IntKind.u8.bits=2^4-1:=by decide
 rw [h1,h2,Nat.and_two_pow_sub_one_eq_mod];exact wrap_u8 (by omega) (by omega)
def nA (c:UInt8):ae:=
 if c.toNat=92 then [92,92] else if c.toNat=10 then [92,110] else if c.toNat=9 then [92,116]
 else if c.toNat<32∨126<c.toNat then [92,120,Ul (c.toNat / 16),Ul (c.toNat%16)] else [c]
def esc (s:ae):ae:=s.flatMap nA
theorem oK (c:UInt8):1<=(nA c).length∧(nA c).length<=4:=by
 unfold nA;repeat' split
 all_goals simp
theorem Ge (s t:ae):esc (s++t)=esc s++esc t:=by simp [esc]
theorem j6 (s:ae):(esc s).length<=4*s.length:=by
 induction s with
 | nil=>simp [esc]
 | cons c s ih=>have:=oK c;simp only [esc,List.flatMap_cons,aba,aaH] at ih⊢;omega
theorem yy {s:ae} {i:Nat} (h:i<s.length):s.take (i+1)=s.take i++ [s.getD i 0]:=by rw [List.take_add_one,aaF h];simp [aaE,aaF h]
theorem Sn (l:ae) (hl:l.length<1000000) (c:UInt8):
  aq cfg 189 [.ptr 0 0,.int .u8 (c.toNat:Int)] [.var 218 [.ax 1 l.length],.sl ⟨false,some 5,none⟩ 1 (l.map ak)]=
   some (.aL [], [.var 218 [.ax 1 (l++nA c).length],.sl ⟨false,some 5,none⟩ 1 ((l++nA c).map ak)]):=by
 refine aa WS Sp ?_;have hc:=c.toNat_lt;unfold nA;by_cases h1:c.toNat=92
 ·simp (maxSteps:=9^9) (disch:=omega) [-aaO,-aaP,-aaE,-getElem?_pos,-getElem?_neg,om,zT,h1,ab,ak]
 by_cases h2:c.toNat=10
 ·simp (maxSteps:=9^9) (disch:=omega) [-aaO,-aaP,-aaE,-getElem?_pos,-getElem?_neg,om,zT,h2,ab,ak]
 by_cases h3:c.toNat=9
 ·simp (maxSteps:=9^9) (disch:=omega) [-aaO,-aaP,-aaE,-getElem?_pos,-getElem?_neg,om,zT,h3,ab,ak]
 by_cases h4:c.toNat<32∨126<c.toNat
 ·have h5:((c.toNat:Int)<32∨126<(c.toNat:Int)):=by omega
  simp (maxSteps:=9^9) (disch:=omega) [-aaO,-aaP,-aaE,-getElem?_pos,-getElem?_neg,om,zT,h1,h2,h3,h4,h5,ab,ak,Ou,Ov,Ot,LB]
 ·have h5: ¬ ((c.toNat:Int)<32∨126<(c.toNat:Int)):=by omega
  simp (maxSteps:=9^9) (disch:=omega) [-aaO,-aaP,-aaE,-getElem?_pos,-getElem?_neg,om,zT,h1,h2,h3,h4,h5,ab,ak]
theorem vK (s:ae) (hs:s.length<200000):aq cfg 152 [.str s] []=some (.str (esc s), []):=by
 refine aa WT Sq ?_;simp (maxSteps:=9^9) (disch:=omega) [-aaO,-aaP,-aaE,-getElem?_pos,-getElem?_neg,om,tA,P2]
 refine Wp.aP (fun i=>s.length-i) (fun (i:Nat)=> [some (.str s),none,some (.ptr 0 0),some (.fn 189 [.ptr 0 0] []),none,none,none,none,some (.int .i64 s.length),some (.int .i64 i),none])
  (fun i=> [.var 218 [.ax 1 (esc (s.take i)).length],.sl ⟨false,some 5,none⟩ 1 ((esc (s.take i)).map ak)]) (fun i=>i<=s.length) ?_ 0 (by omega) (by simp) (by simp [esc])
 intro i hi;by_cases h1:i<s.length
 ·have hg:=o9 h1;have hT:=yy h1;have hE:esc (s.take (i+1))=esc (s.take i)++nA (s.getD i 0):=by rw [hT,Ge];simp [esc]
  have hl:=j6 (s.take i);have hl2:(s.take i).length<=s.length:=by simp;omega
  generalize s.getD i 0=c at hg hE;have ha:=Sn (esc (s.take i)) (by omega) c;rw [<-hE] at ha;generalize esc (s.take i)=E at ha hE hl⊢;simp (maxSteps:=9^9) (disch:=omega) [-aaO,-aaP,-aaE,-getElem?_pos,-getElem?_neg,om,hg,ha];exact ⟨i+1,by omega,by omega,by omega,rfl,rfl⟩
 ·obtain rfl:i=s.length:=by omega
  rw [adn];simp (maxSteps:=9^9) (disch:=omega) [-aaO,-aaP,-aaE,-getElem?_pos,-getElem?_neg,om,tA,av.descOf]
def Hr (c:UInt8):Int:=if 48<=c.toNat∧c.toNat<=57 then (c.toNat:Int)-48 else if 97<=c.toNat∧c.toNat<=102 then (c.toNat:Int)-87 else -1
theorem LC (c:UInt8): -1<=Hr c∧Hr c<16:=by
 unfold Hr;split
 ·omega
 ·split <;> omega
theorem Br (c:UInt8):aq cfg 236 [.int .u8 (c.toNat:Int)] []=some (.int .i64 (Hr c), []):=by
 refine aa WU Sr ?_;have hc:=c.toNat_lt;unfold Hr;generalize c.toNat=n at hc;by_cases h1:48<=n∧n<=57
 ·simp (maxSteps:=9^9) (disch:=omega) [-aaO,-aaP,-aaE,-getElem?_pos,-getElem?_neg,om,Hs,h1,wrap_u8]
 by_cases h2:97<=n∧n<=102
 ·simp (maxSteps:=9^9) (disch:=omega) [-aaO,-aaP,-aaE,-getElem?_pos,-getElem?_neg,om,Hs,h1,h2,wrap_u8]
 ·have k1: ¬ ((48:Int)<=n∧(n:Int)<=57):=by omega
  have k2: ¬ ((97:Int)<=n∧(n:Int)<=102):=by omega
  simp (maxSteps:=9^9) (disch:=omega) [-aaO,-aaP,-aaE,-getElem?_pos,-getElem?_neg,om,Hs,h1,h2,k1,k2,wrap_u8]
theorem Ss (a b:Int) (ha:0<=a∧a<16) (hb:0<=b∧b<16):IntKind.u8.wrap (IntKind.i64.wrap (((IntKind.i64.wrap (a*2^min 4 IntKind.i64.bits)%2^IntKind.i64.bits).toNat ||| (b%2^IntKind.i64.bits).toNat:Nat):Int))=((UInt8.ofNat (16*a.toNat+b.toNat)).toNat:Int):=by
 obtain ⟨n,rfl⟩:=acJ ha.1;obtain ⟨m,rfl⟩:=acJ hb.1;have h: ∀n:Nat,n<16-> ∀m:Nat,m<16->(IntKind.u8.wrap (IntKind.i64.wrap (((IntKind.i64.wrap ((n:Int)*2^min 4 IntKind.i64.bits)%2^IntKind.i64.bits).toNat ||| ((m:Int)%2^IntKind.i64.bits).toNat:Nat):Int)))=((UInt8.ofNat (16*n+m)).toNat:Int):=by decide+kernel
 simp only [Int.toNat_natCast];rw [h n (by omega) m (by omega)]
def pc (s:ae) (i:Nat):Option (UInt8×Nat):=
 if (s.getD i 0).toNat≠92 then some (s.getD i 0,1)
 else if s.length<=i+1 then none
 else if (s.getD (i+1) 0).toNat=92 then some (92,2)
 else if (s.getD (i+1) 0).toNat=110 then some (10,2)
 else if (s.getD (i+1) 0).toNat=116 then some (9,2)
 else if (s.getD (i+1) 0).toNat=120∧i+3<s.length∧0<=Hr (s.getD (i+2) 0)∧0<=Hr (s.getD (i+3) 0) then some (UInt8.ofNat (16*(Hr (s.getD (i+2) 0)).toNat+(Hr (s.getD (i+3) 0)).toNat),4)
 else none
theorem LD {s:ae} {i:Nat} {c:UInt8} {n:Nat} (h:pc s i=some (c,n)) (hi:i<s.length):1<=n∧i+n<=s.length:=by
 unfold pc at h
 repeat' split at h
 all_goals first
  | cases h;done
  | (cases h;omega)
def Gf (s:ae):AV:=match pc s 0 with
 | some (c,n)=> .aL [.int .u8 (c.toNat:Int),.int .i64 n]
 | none=> .aL [.int .u8 0,.int .i64 0]
theorem LF (s:ae) (hs:s≠ []):aq cfg 213 [.str s] []=some (Gf s, []):=by
 refine aa WV Su ?_;have hl:=List.length_pos_iff.2 hs;have g0:=o9 (d:=s) (i:=0) (by omega);unfold Gf pc;generalize s.getD 0 0=c0 at g0;by_cases h1:c0.toNat=92
 ·by_cases h2:s.length<=1
  ·simp (maxSteps:=9^9) (disch:=omega) [-aaO,-aaP,-aaE,-getElem?_pos,-getElem?_neg,om,oL,g0,h1]
  ·have g1:=o9 (d:=s) (i:=1) (by omega);simp only [abz];generalize s.getD 1 0=c1 at g1;by_cases k1:c1.toNat=92
   ·simp (maxSteps:=9^9) (disch:=omega) [-aaO,-aaP,-aaE,-getElem?_pos,-getElem?_neg,om,oL,g0,g1,h1,k1]
   by_cases k2:c1.toNat=110
   ·simp (maxSteps:=9^9) (disch:=omega) [-aaO,-aaP,-aaE,-getElem?_pos,-getElem?_neg,om,oL,g0,g1,h1,k1,k2]
   by_cases k3:c1.toNat=116
   ·simp (maxSteps:=9^9) (disch:=omega) [-aaO,-aaP,-aaE,-getElem?_pos,-getElem?_neg,om,oL,g0,g1,h1,k1,k2,k3]
   by_cases k4:c1.toNat=120
   ·by_cases h3:s.length<4
    ·simp (maxSteps:=9^9) (disch:=omega) [-aaO,-aaP,-aaE,-getElem?_pos,-getElem?_neg,om,oL,g0,g1,h1,k1,k2,k3,k4]
    ·have g2:=o9 (d:=s) (i:=2) (by omega);have g3:=o9 (d:=s) (i:=3) (by omega);generalize s.getD 2 0=c2 at g2;generalize s.getD 3 0=c3 at g3;have e2:=LC c2;have e3:=LC c3;by_cases k5:0<=Hr c2
     ·by_cases k6:0<=Hr c3
      ·have b2:=Ss (Hr c2) (Hr c3) ⟨k5,e2.2⟩ ⟨k6,e3.2⟩;simp (maxSteps:=9^9) (disch:=omega) [-aaO,-aaP,-aaE,-getElem?_pos,-getElem?_neg,om,oL,g0,g1,g2,g3,h1,k1,k2,k3,k4,k5,k6,Br,b2]
      ·simp (maxSteps:=9^9) (disch:=omega) [-aaO,-aaP,-aaE,-getElem?_pos,-getElem?_neg,om,oL,g0,g1,g2,g3,h1,k1,k2,k3,k4,k5,k6,Br]
     ·simp (maxSteps:=9^9) (disch:=omega) [-aaO,-aaP,-aaE,-getElem?_pos,-getElem?_neg,om,oL,g0,g1,g2,g3,h1,k1,k2,k3,k4,k5,Br]
   ·simp (maxSteps:=9^9) (disch:=omega) [-aaO,-aaP,-aaE,-getElem?_pos,-getElem?_neg,om,oL,g0,g1,h1,k1,k2,k3,k4]
 ·simp (maxSteps:=9^9) (disch:=omega) [-aaO,-aaP,-aaE,-getElem?_pos,-getElem?_neg,om,oL,g0,h1]
def Ht (s:ae) (i:Nat) (out:ae):Option ae:=
 if hi:i<s.length then
  match hp:pc s i with
  | none=>none
  | some (c,n)=>Ht s (i+n) (out++ [c])
 else some out
termination_by s.length-i
decreasing_by
 have:=LD hp hi;omega
theorem Hu {s:ae} {i:Nat} {out:ae} (h: ¬ i<s.length):Ht s i out=some out:=by rw [Ht,dif_neg h]
theorem LG {s:ae} {i:Nat} {out:ae} (h:i<s.length) (hp:pc s i=none):Ht s i out=none:=by
 rw [Ht,dif_pos h];split
 ·rfl
 ·rename_i h2;rw [hp] at h2;cases h2
theorem Ee {s:ae} {i:Nat} {out:ae} {c:UInt8} {n:Nat} (h:i<s.length) (hp:pc s i=some (c,n)):Ht s i out=Ht s (i+n) (out++ [c]):=by
 rw [Ht,dif_pos h];split
 ·rename_i h2;rw [hp] at h2;cases h2
 ·rename_i h2;rw [hp] at h2;cases h2;rfl
def qU (s:ae):AV:=match Ht s 0 [] with
 | some t=>if esc t=s then .aL [.str t,.bool true] else .aL [.str [],.bool false]
 | none=> .aL [.str [],.bool false]
theorem I6 (s:ae) (i j:Nat):(s.drop i).getD j 0=s.getD (i+j) 0:=by simp [aaE]
theorem Hv (s:ae) (i:Nat) (hi:i<s.length):pc (s.drop i) 0=pc s i:=by
 have e:((s.drop i).length<=1)=(s.length<=i+1):=by rw [abb];apply propext;omega
 have e3:(3<(s.drop i).length)=(i+3<s.length):=by rw [abb];apply propext;omega
 unfold pc;simp only [I6,Nat.add_zero,abz,e,e3]
theorem Sl (s:ae) (hs:s.length<190000):aq cfg 181 [.str s] []=some (qU s, []):=by
 refine aa WX Sv ?_;simp (maxSteps:=9^9) (disch:=omega) [-aaO,-aaP,-aaE,-getElem?_pos,-getElem?_neg,om,tA,P3]
 refine Wp.aP (fun (a:Nat×ae)=>s.length-a.1) (fun a=> [some (.str s),none,none,some (.ax 0 a.2.length),some (.int .i64 a.1),none,none,none,none,none,none,none,none,none,none])
  (fun a=> [.sl ⟨false,some 5,none⟩ 1 (a.2.map ak)]) (fun a=>a.1<=s.length∧a.2.length<=a.1∧Ht s a.1 a.2=Ht s 0 []) ?_ (0, []) ⟨by simp,by simp,rfl⟩ (by simp) (by simp)
 rintro ⟨i,out⟩ ⟨hi,ho,hu⟩;simp only at hi ho hu⊢;by_cases h1:i<s.length
 ·have hp:=LF (s.drop i) (by simp;omega);unfold Gf at hp;rw [Hv s i h1] at hp;have e1:(s.take s.length).drop i=s.drop i:=by rw [adn]
  cases hc:pc s i with
  | none=>
   rw [hc] at hp
   have hU:qU s= .aL [.str [],.bool false]:=by unfold qU;rw [<-hu,LG h1 hc]
   simp (maxSteps:=9^9) (disch:=omega) [-aaO,-aaP,-aaE,-getElem?_pos,-getElem?_neg,om,hp,hU]
  | some p=>obtain ⟨c,n⟩:=p;rw [hc] at hp;have hn:=LD hc h1;simp (maxSteps:=9^9) (disch:=omega) [-aaO,-aaP,-aaE,-getElem?_pos,-getElem?_neg,om,hp];refine ⟨i+n,out++ [c],⟨by omega,by simp;omega,by rw [<-Ee h1 hc,hu]⟩,by omega,by simp [ak]⟩
 ·obtain rfl:i=s.length:=by omega
  rw [Hu h1] at hu;have he:=vK out (by omega)
  have hU:qU s=if esc out=s then .aL [.str out,.bool true] else .aL [.str [],.bool false]:=by unfold qU;rw [<-hu]
  by_cases h2:esc out=s
  ·simp (maxSteps:=9^9) (disch:=omega) [-aaO,-aaP,-aaE,-getElem?_pos,-getElem?_neg,om,he,hU,h2,av.descOf]
  ·simp (maxSteps:=9^9) (disch:=omega) [-aaO,-aaP,-aaE,-getElem?_pos,-getElem?_neg,om,he,hU,h2,av.descOf]
def unesc (s:ae):Option ae:=match Ht s 0 [] with
 | some t=>if esc t=s then some t else none
 | none=>none
theorem IY (s:ae):qU s=match unesc s with | some t=> .aL [.str t,.bool true] | none=> .aL [.str [],.bool false]:=by
 unfold qU unesc;cases Ht s 0 [] with
 | none=>rfl
 | some t=>simp only;split <;> rfl
theorem zU: ∀n,n<16->32<=(Ul n).toNat∧(Ul n).toNat<=126:=by decide+kernel
theorem Hw: ∀n,n<16->Hr (Ul n)=(n:Int):=by decide+kernel
theorem Gg (c x:UInt8) (h:x∈nA c):32<=x.toNat∧x.toNat<=126:=by
 have hc:=c.toNat_lt;have d1:=zU (c.toNat / 16) (by omega);have d2:=zU (c.toNat%16) (by omega);unfold nA at h;split at h
 ·simp at h;subst h;decide
 split at h
 ·simp at h;rcases h with rfl | rfl <;> decide
 split at h
 ·simp at h;rcases h with rfl | rfl <;> decide
 split at h
 ·simp at h;rcases h with rfl | rfl | rfl | rfl
  ·decide
  ·decide
  ·exact d1
  ·exact d2
 ·simp at h;subst h;omega
theorem I7 {s:ae} {x:UInt8} (h:x∈esc s):32<=x.toNat∧x.toNat<=126:=by unfold esc at h;rw [List.mem_flatMap] at h;obtain ⟨c,_,h2⟩:=h;exact Gg c x h2
theorem Ow (c:UInt8) (r:ae):pc (nA c++r) 0=some (c,(nA c).length):=by
 have hc:=c.toNat_lt;unfold nA;split
 ·rename_i h;have:c=92:=UInt8.toNat_inj.1 h;subst this;simp [pc]
 split
 ·rename_i h;have:c=10:=UInt8.toNat_inj.1 h;subst this;simp [pc]
 split
 ·rename_i h;have:c=9:=UInt8.toNat_inj.1 h;subst this;simp [pc]
 split
 ·have d1:=Hw (c.toNat / 16) (by omega);have d2:=Hw (c.toNat%16) (by omega);have e:16*(c.toNat / 16)+c.toNat%16=c.toNat:=by omega
  simp [pc,d1,d2];have e1:((c.toNat:Int) / 16).toNat=c.toNat / 16:=by omega
  have e2:((c.toNat:Int)%16).toNat=c.toNat%16:=by omega
  have e3:UInt8.ofNat (16*(c.toNat / 16)+c.toNat%16)=c:=by rw [e];simp
  simpa using e3
 ·rename_i h _ _ _;simp [pc,h]
theorem Hx: ∀(s a out:ae),Ht (a++esc s) a.length out=some (out++s)
 | [],a,out=>by
  rw [Hu (by simp [esc])];simp
 | c::s,a,out=>by
  have hs:esc (c::s)=nA c++esc s:=by simp [esc]
  have hl:=oK c;rw [hs]
  have hp:pc (a++(nA c++esc s)) a.length=some (c,(nA c).length):=by rw [<-Hv _ _ (by simp;omega)];simp only [List.drop_left];exact Ow c _
  rw [Ee (by simp;omega) hp,<-List.append_assoc,<-aba,Hx s (a++nA c) (out++ [c])];simp
theorem dS (s:ae):unesc (esc s)=some s:=by unfold unesc;have h:=Hx s [] [];simp only [List.nil_append,List.length_nil] at h;rw [h];simp
theorem Bs {s t:ae} (h:unesc s=some t):esc t=s:=by
 unfold unesc at h;split at h
 ·split at h
  ·rename_i h2;cases h;exact h2
  ·cases h
 ·cases h
theorem LH {s:ae} {c:UInt8} (hc:c.toNat<32):c∉esc s:=fun h=>by
 have:=(I7 h).1;omega
theorem Oo {s t:ae} (h:unesc s=some t):t.length<=s.length:=by
 rw [<-Bs h];unfold esc;rw [List.length_flatMap]
 have: ∀l:ae,l.length<=(l.map fun c=>(nA c).length).sum:=by
  intro l
  induction l with
  | nil=>simp
  | cons c l ih=>have:=(oK c).1;simp only [aaH,List.map_cons,List.sum_cons];omega
 exact this t
end Go.Proofs.YtfgbpngakkhdcaaGreatDoor
