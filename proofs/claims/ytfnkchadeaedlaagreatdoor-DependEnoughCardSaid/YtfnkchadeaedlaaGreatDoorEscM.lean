/-
 Escape and Unescape of markup: program and reference. Unescape of markup: program and reference. Unescape of markup: the reference. Plain laws of escaped texts: what is escaped is unescaped to it; escaped bytes are printable.
-/
import Derived.Test.YtfnkchadeaedlaaGreatDoorIrs
import Derived.Test.YtfnkchadeaedlaaGreatDoorStrM
set_option linter.all false
namespace Go.Proofs.YtfnkchadeaedlaaGreatDoor
open Go.Am
set_option maxRecDepth 10000
set_option maxHeartbeats 4000000
def Ik:ae:= [48,49,50,51,52,53,54,55,56,57,97,98,99,100,101,102]
theorem Kl:([48,49,50,51,52,53,54,55,56,57,97,98,99,100,101,102]:ae)=Ik:=rfl
theorem BM:Ik.length=16:=rfl
def Po (n:Nat):UInt8:=Ik.getD n 0
theorem Il {n:Nat} (h:n<16):Ik[n]?=some (Po n):=nF (d:=Ik) (by rw [BM];exact h)
theorem Km (x:UInt8):(x.toNat:Int).fdiv (2^min 4 IntKind.u8.bits)=((x.toNat / 16:Nat):Int):=by
 have h:(2:Int)^min 4 IntKind.u8.bits=16:=by decide
 rw [h,Int.fdiv_eq_ediv_of_nonneg _ (by omega)];rfl
theorem Ko (x:UInt8):IntKind.u8.wrap ((x.toNat%2^IntKind.u8.bits&&&15%2^IntKind.u8.bits:Nat):Int)=((x.toNat%16:Nat):Int):=by
 have hx:=x.toNat_lt;have h1:x.toNat%2^IntKind.u8.bits=x.toNat:=Nat.mod_eq_of_lt hx;have h2:15%2^IntKind.u8.bits=2^4-1:=by decide
 rw [h1,h2,Nat.and_two_pow_sub_one_eq_mod];exact wrap_u8 (by omega) (by omega)
def lY (c:UInt8):ae:=
 if c.toNat=92 then [92,92] else if c.toNat=10 then [92,110] else if c.toNat=9 then [92,116]
 else if c.toNat<32∨126<c.toNat then [92,120,Po (c.toNat / 16),Po (c.toNat%16)] else [c]
def esc (s:ae):ae:=s.flatMap lY
theorem nc (c:UInt8):1≤(lY c).length∧(lY c).length≤4:=by
 unfold lY;repeat' split
 all_goals simp
theorem Dw (s t:ae):esc (s++t)=esc s++esc t:=by simp [esc]
theorem jn (s:ae):(esc s).length≤4*s.length:=by
 induction s with
 | nil=>simp [esc]
 | cons c s ih=>have:=nc c;simp only [esc,List.flatMap_cons,List.length_append,List.length_cons] at ih⊢;omega
theorem wi {s:ae} {i:Nat} (h:i<s.length):s.take (i+1)=s.take i++ [s.getD i 0]:=by rw [List.take_add_one,List.getElem?_eq_getElem h];simp [List.getD_eq_getElem?_getD,List.getElem?_eq_getElem h]
theorem NV (l:ae) (hl:l.length<1000000) (c:UInt8):
  ar cfg 177 [.ptr 0 0,.int .u8 (c.toNat:Int)] [.var 199 [.az 1 l.length],.sl ⟨false,some 5,none⟩ 1 (l.map aj)]=
   some (.aO [], [.var 199 [.az 1 (l++lY c).length],.sl ⟨false,some 5,none⟩ 1 ((l++lY c).map aj)]):=by
 refine ad RR NW ?_;have hc:=c.toNat_lt;unfold lY;by_cases h1:c.toNat=92
 ·simp (maxSteps:=9^9) (disch:=omega) [-List.map_replicate,-List.map_set,-List.getD_eq_getElem?_getD,-getElem?_pos,-getElem?_neg,om,xR,h1,af,aj]
 by_cases h2:c.toNat=10
 ·simp (maxSteps:=9^9) (disch:=omega) [-List.map_replicate,-List.map_set,-List.getD_eq_getElem?_getD,-getElem?_pos,-getElem?_neg,om,xR,h2,af,aj]
 by_cases h3:c.toNat=9
 ·simp (maxSteps:=9^9) (disch:=omega) [-List.map_replicate,-List.map_set,-List.getD_eq_getElem?_getD,-getElem?_pos,-getElem?_neg,om,xR,h3,af,aj]
 by_cases h4:c.toNat<32∨126<c.toNat
 ·have h5:((c.toNat:Int)<32∨126<(c.toNat:Int)):=by omega
  simp (maxSteps:=9^9) (disch:=omega) [-List.map_replicate,-List.map_set,-List.getD_eq_getElem?_getD,-getElem?_pos,-getElem?_neg,om,xR,h1,h2,h3,h4,h5,af,aj,Km,Ko,Kl,Il]
 ·have h5: ¬ ((c.toNat:Int)<32∨126<(c.toNat:Int)):=by omega
  simp (maxSteps:=9^9) (disch:=omega) [-List.map_replicate,-List.map_set,-List.getD_eq_getElem?_getD,-getElem?_pos,-getElem?_neg,om,xR,h1,h2,h3,h4,h5,af,aj]
theorem tK (s:ae) (hs:s.length<200000):ar cfg 135 [.str s] []=some (.str (esc s), []):=by
 refine ad RS NY ?_;simp (maxSteps:=9^9) (disch:=omega) [-List.map_replicate,-List.map_set,-List.getD_eq_getElem?_getD,-getElem?_pos,-getElem?_neg,om,rF,Lv]
 refine Wp.bw (fun i=>s.length-i) (fun (i:Nat)=> [some (.str s),none,some (.ptr 0 0),some (.fn 177 [.ptr 0 0] []),none,none,none,none,some (.int .i64 s.length),some (.int .i64 i),none])
  (fun i=> [.var 199 [.az 1 (esc (s.take i)).length],.sl ⟨false,some 5,none⟩ 1 ((esc (s.take i)).map aj)]) (fun i=>i≤s.length) ?_ 0 (by omega) (by simp) (by simp [esc])
 intro i hi;by_cases h1:i<s.length
 ·have hg:=nF h1;have hT:=wi h1;have hE:esc (s.take (i+1))=esc (s.take i)++lY (s.getD i 0):=by rw [hT,Dw];simp [esc]
  have hl:=jn (s.take i);have hl2:(s.take i).length≤s.length:=by simp;omega
  generalize s.getD i 0=c at hg hE;have ha:=NV (esc (s.take i)) (by omega) c;rw [←hE] at ha;generalize esc (s.take i)=E at ha hE hl⊢;simp (maxSteps:=9^9) (disch:=omega) [-List.map_replicate,-List.map_set,-List.getD_eq_getElem?_getD,-getElem?_pos,-getElem?_neg,om,hg,ha];exact ⟨i+1,by omega,by omega,by omega,rfl,rfl⟩
 ·obtain rfl:i=s.length:=by omega
  rw [List.take_length];simp (maxSteps:=9^9) (disch:=omega) [-List.map_replicate,-List.map_set,-List.getD_eq_getElem?_getD,-getElem?_pos,-getElem?_neg,om,rF,ax.descOf]
def EH (c:UInt8):Int:=if 48≤c.toNat∧c.toNat≤57 then (c.toNat:Int)-48 else if 97≤c.toNat∧c.toNat≤102 then (c.toNat:Int)-87 else -1
theorem Im (c:UInt8): -1≤EH c∧EH c<16:=by
 unfold EH;split
 ·omega
 ·split <;> omega
theorem y9 (c:UInt8):ar cfg 187 [.int .u8 (c.toNat:Int)] []=some (.int .i64 (EH c), []):=by
 refine ad RT NZ ?_;have hc:=c.toNat_lt;unfold EH;generalize c.toNat=n at hc;by_cases h1:48≤n∧n≤57
 ·simp (maxSteps:=9^9) (disch:=omega) [-List.map_replicate,-List.map_set,-List.getD_eq_getElem?_getD,-getElem?_pos,-getElem?_neg,om,EI,h1,wrap_u8]
 by_cases h2:97≤n∧n≤102
 ·simp (maxSteps:=9^9) (disch:=omega) [-List.map_replicate,-List.map_set,-List.getD_eq_getElem?_getD,-getElem?_pos,-getElem?_neg,om,EI,h1,h2,wrap_u8]
 ·have k1: ¬ ((48:Int)≤n∧(n:Int)≤57):=by omega
  have k2: ¬ ((97:Int)≤n∧(n:Int)≤102):=by omega
  simp (maxSteps:=9^9) (disch:=omega) [-List.map_replicate,-List.map_set,-List.getD_eq_getElem?_getD,-getElem?_pos,-getElem?_neg,om,EI,h1,h2,k1,k2,wrap_u8]
theorem N0 (a b:Int) (ha:0≤a∧a<16) (hb:0≤b∧b<16):IntKind.u8.wrap (IntKind.i64.wrap (((IntKind.i64.wrap (a*2^min 4 IntKind.i64.bits)%2^IntKind.i64.bits).toNat ||| (b%2^IntKind.i64.bits).toNat:Nat):Int))=((UInt8.ofNat (16*a.toNat+b.toNat)).toNat:Int):=by
 obtain ⟨n,rfl⟩:=Int.eq_ofNat_of_zero_le ha.1;obtain ⟨m,rfl⟩:=Int.eq_ofNat_of_zero_le hb.1;have h: ∀n:Nat,n<16→ ∀m:Nat,m<16→(IntKind.u8.wrap (IntKind.i64.wrap (((IntKind.i64.wrap ((n:Int)*2^min 4 IntKind.i64.bits)%2^IntKind.i64.bits).toNat ||| ((m:Int)%2^IntKind.i64.bits).toNat:Nat):Int)))=((UInt8.ofNat (16*n+m)).toNat:Int):=by decide+kernel
 simp only [Int.toNat_natCast];rw [h n (by omega) m (by omega)]
def pc (s:ae) (i:Nat):Option (UInt8×Nat):=
 if (s.getD i 0).toNat≠92 then some (s.getD i 0,1)
 else if s.length≤i+1 then none
 else if (s.getD (i+1) 0).toNat=92 then some (92,2)
 else if (s.getD (i+1) 0).toNat=110 then some (10,2)
 else if (s.getD (i+1) 0).toNat=116 then some (9,2)
 else if (s.getD (i+1) 0).toNat=120∧i+3<s.length∧0≤EH (s.getD (i+2) 0)∧0≤EH (s.getD (i+3) 0) then some (UInt8.ofNat (16*(EH (s.getD (i+2) 0)).toNat+(EH (s.getD (i+3) 0)).toNat),4)
 else none
theorem Io {s:ae} {i:Nat} {c:UInt8} {n:Nat} (h:pc s i=some (c,n)) (hi:i<s.length):1≤n∧i+n≤s.length:=by
 unfold pc at h
 repeat' split at h
 all_goals first
  | cases h;done
  | (cases h;omega)
def Dx (s:ae):AV:=match pc s 0 with
 | some (c,n)=> .aO [.int .u8 (c.toNat:Int),.int .i64 n]
 | none=> .aO [.int .u8 0,.int .i64 0]
theorem Ip (s:ae) (hs:s≠ []):ar cfg 165 [.str s] []=some (Dx s, []):=by
 refine ad RU N1 ?_;have hl:=List.length_pos_iff.2 hs;have g0:=nF (d:=s) (i:=0) (by omega);unfold Dx pc;generalize s.getD 0 0=c0 at g0;by_cases h1:c0.toNat=92
 ·by_cases h2:s.length≤1
  ·simp (maxSteps:=9^9) (disch:=omega) [-List.map_replicate,-List.map_set,-List.getD_eq_getElem?_getD,-getElem?_pos,-getElem?_neg,om,nf,g0,h1]
  ·have g1:=nF (d:=s) (i:=1) (by omega);simp only [Nat.zero_add];generalize s.getD 1 0=c1 at g1;by_cases k1:c1.toNat=92
   ·simp (maxSteps:=9^9) (disch:=omega) [-List.map_replicate,-List.map_set,-List.getD_eq_getElem?_getD,-getElem?_pos,-getElem?_neg,om,nf,g0,g1,h1,k1]
   by_cases k2:c1.toNat=110
   ·simp (maxSteps:=9^9) (disch:=omega) [-List.map_replicate,-List.map_set,-List.getD_eq_getElem?_getD,-getElem?_pos,-getElem?_neg,om,nf,g0,g1,h1,k1,k2]
   by_cases k3:c1.toNat=116
   ·simp (maxSteps:=9^9) (disch:=omega) [-List.map_replicate,-List.map_set,-List.getD_eq_getElem?_getD,-getElem?_pos,-getElem?_neg,om,nf,g0,g1,h1,k1,k2,k3]
   by_cases k4:c1.toNat=120
   ·by_cases h3:s.length<4
    ·simp (maxSteps:=9^9) (disch:=omega) [-List.map_replicate,-List.map_set,-List.getD_eq_getElem?_getD,-getElem?_pos,-getElem?_neg,om,nf,g0,g1,h1,k1,k2,k3,k4]
    ·have g2:=nF (d:=s) (i:=2) (by omega);have g3:=nF (d:=s) (i:=3) (by omega);generalize s.getD 2 0=c2 at g2;generalize s.getD 3 0=c3 at g3;have e2:=Im c2;have e3:=Im c3;by_cases k5:0≤EH c2
     ·by_cases k6:0≤EH c3
      ·have b2:=N0 (EH c2) (EH c3) ⟨k5,e2.2⟩ ⟨k6,e3.2⟩;simp (maxSteps:=9^9) (disch:=omega) [-List.map_replicate,-List.map_set,-List.getD_eq_getElem?_getD,-getElem?_pos,-getElem?_neg,om,nf,g0,g1,g2,g3,h1,k1,k2,k3,k4,k5,k6,y9,b2]
      ·simp (maxSteps:=9^9) (disch:=omega) [-List.map_replicate,-List.map_set,-List.getD_eq_getElem?_getD,-getElem?_pos,-getElem?_neg,om,nf,g0,g1,g2,g3,h1,k1,k2,k3,k4,k5,k6,y9]
     ·simp (maxSteps:=9^9) (disch:=omega) [-List.map_replicate,-List.map_set,-List.getD_eq_getElem?_getD,-getElem?_pos,-getElem?_neg,om,nf,g0,g1,g2,g3,h1,k1,k2,k3,k4,k5,y9]
   ·simp (maxSteps:=9^9) (disch:=omega) [-List.map_replicate,-List.map_set,-List.getD_eq_getElem?_getD,-getElem?_pos,-getElem?_neg,om,nf,g0,g1,h1,k1,k2,k3,k4]
 ·simp (maxSteps:=9^9) (disch:=omega) [-List.map_replicate,-List.map_set,-List.getD_eq_getElem?_getD,-getElem?_pos,-getElem?_neg,om,nf,g0,h1]
def EJ (s:ae) (i:Nat) (out:ae):Option ae:=
 if hi:i<s.length then
  match hp:pc s i with
  | none=>none
  | some (c,n)=>EJ s (i+n) (out++ [c])
 else some out
termination_by s.length-i
decreasing_by
 have:=Io hp hi;omega
theorem EK {s:ae} {i:Nat} {out:ae} (h: ¬ i<s.length):EJ s i out=some out:=by rw [EJ,dif_neg h]
theorem Iq {s:ae} {i:Nat} {out:ae} (h:i<s.length) (hp:pc s i=none):EJ s i out=none:=by
 rw [EJ,dif_pos h];split
 ·rfl
 ·rename_i h2;rw [hp] at h2;cases h2
theorem BN {s:ae} {i:Nat} {out:ae} {c:UInt8} {n:Nat} (h:i<s.length) (hp:pc s i=some (c,n)):EJ s i out=EJ s (i+n) (out++ [c]):=by
 rw [EJ,dif_pos h];split
 ·rename_i h2;rw [hp] at h2;cases h2
 ·rename_i h2;rw [hp] at h2;cases h2;rfl
def pr (s:ae):AV:=match EJ s 0 [] with
 | some t=>if esc t=s then .aO [.str t,.bool true] else .aO [.str [],.bool false]
 | none=> .aO [.str [],.bool false]
theorem Gj (s:ae) (i j:Nat):(s.drop i).getD j 0=s.getD (i+j) 0:=by simp [List.getD_eq_getElem?_getD]
theorem EL (s:ae) (i:Nat) (hi:i<s.length):pc (s.drop i) 0=pc s i:=by
 have e:((s.drop i).length≤1)=(s.length≤i+1):=by rw [List.length_drop];apply propext;omega
 have e3:(3<(s.drop i).length)=(i+3<s.length):=by rw [List.length_drop];apply propext;omega
 unfold pc;simp only [Gj,Nat.add_zero,Nat.zero_add,e,e3]
theorem NO (s:ae) (hs:s.length<190000):ar cfg 121 [.str s] []=some (pr s, []):=by
 refine ad RV N2 ?_;simp (maxSteps:=9^9) (disch:=omega) [-List.map_replicate,-List.map_set,-List.getD_eq_getElem?_getD,-getElem?_pos,-getElem?_neg,om,rF,Lw]
 refine Wp.bw (fun (a:Nat×ae)=>s.length-a.1) (fun a=> [some (.str s),none,none,some (.az 0 a.2.length),some (.int .i64 a.1),none,none,none,none,none,none,none,none,none,none])
  (fun a=> [.sl ⟨false,some 5,none⟩ 1 (a.2.map aj)]) (fun a=>a.1≤s.length∧a.2.length≤a.1∧EJ s a.1 a.2=EJ s 0 []) ?_ (0, []) ⟨by simp,by simp,rfl⟩ (by simp) (by simp)
 rintro ⟨i,out⟩ ⟨hi,ho,hu⟩;simp only at hi ho hu⊢;by_cases h1:i<s.length
 ·have hp:=Ip (s.drop i) (by simp;omega);unfold Dx at hp;rw [EL s i h1] at hp;have e1:(s.take s.length).drop i=s.drop i:=by rw [List.take_length]
  cases hc:pc s i with
  | none=>
   rw [hc] at hp
   have hU:pr s= .aO [.str [],.bool false]:=by unfold pr;rw [←hu,Iq h1 hc]
   simp (maxSteps:=9^9) (disch:=omega) [-List.map_replicate,-List.map_set,-List.getD_eq_getElem?_getD,-getElem?_pos,-getElem?_neg,om,hp,hU]
  | some p=>obtain ⟨c,n⟩:=p;rw [hc] at hp;have hn:=Io hc h1;simp (maxSteps:=9^9) (disch:=omega) [-List.map_replicate,-List.map_set,-List.getD_eq_getElem?_getD,-getElem?_pos,-getElem?_neg,om,hp];refine ⟨i+n,out++ [c],⟨by omega,by simp;omega,by rw [←BN h1 hc,hu]⟩,by omega,by simp [aj]⟩
 ·obtain rfl:i=s.length:=by omega
  rw [EK h1] at hu;have he:=tK out (by omega)
  have hU:pr s=if esc out=s then .aO [.str out,.bool true] else .aO [.str [],.bool false]:=by unfold pr;rw [←hu]
  by_cases h2:esc out=s
  ·simp (maxSteps:=9^9) (disch:=omega) [-List.map_replicate,-List.map_set,-List.getD_eq_getElem?_getD,-getElem?_pos,-getElem?_neg,om,he,hU,h2,ax.descOf]
  ·simp (maxSteps:=9^9) (disch:=omega) [-List.map_replicate,-List.map_set,-List.getD_eq_getElem?_getD,-getElem?_pos,-getElem?_neg,om,he,hU,h2,ax.descOf]
def aD (s:ae):Option ae:=match EJ s 0 [] with
 | some t=>if esc t=s then some t else none
 | none=>none
theorem F9 (s:ae):pr s=match aD s with | some t=> .aO [.str t,.bool true] | none=> .aO [.str [],.bool false]:=by
 unfold pr aD;cases EJ s 0 [] with
 | none=>rfl
 | some t=>simp only;split <;> rfl
theorem xS: ∀n,n<16→32≤(Po n).toNat∧(Po n).toNat≤126:=by decide+kernel
theorem EM: ∀n,n<16→EH (Po n)=(n:Int):=by decide+kernel
theorem Dy (c x:UInt8) (h:x∈lY c):32≤x.toNat∧x.toNat≤126:=by
 have hc:=c.toNat_lt;have d1:=xS (c.toNat / 16) (by omega);have d2:=xS (c.toNat%16) (by omega);unfold lY at h;split at h
 ·simp at h;subst h;decide
 split at h
 ·simp at h;rcases h with rfl | rfl <;> decide
 split at h
 ·simp at h;rcases h with rfl | rfl <;> decide
 split at h
 ·simp at h;rcases h with rfl | rfl | rfl | rfl
  ·decide
  ·decide
  ·exact d1
  ·exact d2
 ·simp at h;subst h;omega
theorem Gk {s:ae} {x:UInt8} (h:x∈esc s):32≤x.toNat∧x.toNat≤126:=by unfold esc at h;rw [List.mem_flatMap] at h;obtain ⟨c,_,h2⟩:=h;exact Dy c x h2
theorem Kp (c:UInt8) (r:ae):pc (lY c++r) 0=some (c,(lY c).length):=by
 have hc:=c.toNat_lt;unfold lY;split
 ·rename_i h;have:c=92:=UInt8.toNat_inj.1 h;subst this;simp [pc]
 split
 ·rename_i h;have:c=10:=UInt8.toNat_inj.1 h;subst this;simp [pc]
 split
 ·rename_i h;have:c=9:=UInt8.toNat_inj.1 h;subst this;simp [pc]
 split
 ·have d1:=EM (c.toNat / 16) (by omega);have d2:=EM (c.toNat%16) (by omega);have e:16*(c.toNat / 16)+c.toNat%16=c.toNat:=by omega
  simp [pc,d1,d2];have e1:((c.toNat:Int) / 16).toNat=c.toNat / 16:=by omega
  have e2:((c.toNat:Int)%16).toNat=c.toNat%16:=by omega
  have e3:UInt8.ofNat (16*(c.toNat / 16)+c.toNat%16)=c:=by rw [e];simp
  simpa using e3
 ·rename_i h _ _ _;simp [pc,h]
theorem EN: ∀(s a out:ae),EJ (a++esc s) a.length out=some (out++s)
 | [],a,out=>by
  rw [EK (by simp [esc])];simp
 | c::s,a,out=>by
  have hs:esc (c::s)=lY c++esc s:=by simp [esc]
  have hl:=nc c;rw [hs]
  have hp:pc (a++(lY c++esc s)) a.length=some (c,(lY c).length):=by rw [←EL _ _ (by simp;omega)];simp only [List.drop_left];exact Kp c _
  rw [BN (by simp;omega) hp,←List.append_assoc,←List.length_append,EN s (a++lY c) (out++ [c])];simp
theorem lN (s:ae):aD (esc s)=some s:=by unfold aD;have h:=EN s [] [];simp only [List.nil_append,List.length_nil] at h;rw [h];simp
theorem za {s t:ae} (h:aD s=some t):esc t=s:=by
 unfold aD at h;split at h
 ·split at h
  ·rename_i h2;cases h;exact h2
  ·cases h
 ·cases h
theorem Ir {s:ae} {c:UInt8} (hc:c.toNat<32):c∉esc s:=fun h=>by
 have:=(Gk h).1;omega
theorem Kj {s t:ae} (h:aD s=some t):t.length≤s.length:=by
 rw [←za h];unfold esc;rw [List.length_flatMap]
 have: ∀l:ae,l.length≤(l.map fun c=>(lY c).length).sum:=by
  intro l
  induction l with
  | nil=>simp
  | cons c l ih=>have:=(nc c).1;simp only [List.length_cons,List.map_cons,List.sum_cons];omega
 exact this t
end Go.Proofs.YtfnkchadeaedlaaGreatDoor
