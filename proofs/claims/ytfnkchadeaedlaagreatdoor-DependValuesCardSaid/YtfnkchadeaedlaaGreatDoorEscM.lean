/-
 Escape and Unescape of markup: program and reference. Unescape of markup: program and reference. Unescape of markup: the reference. Plain laws of escaped texts: what is escaped is unescaped to it; escaped bytes are printable.
-/
import Derived.Test.YtfnkchadeaedlaaGreatDoorIrs
import Derived.Test.YtfnkchadeaedlaaGreatDoorStrM
set_option linter.all false
namespace Go.Proofs.YtfnkchadeaedlaaGreatDoor
open Go.Am
set_option maxRecDepth 10000
set_option maxHeartbeats 4000000
def I7:af:= [48,49,50,51,52,53,54,55,56,57,97,98,99,100,101,102]
theorem Ll:([48,49,50,51,52,53,54,55,56,57,97,98,99,100,101,102]:af)=I7:=rfl
theorem Ck:I7.length=16:=rfl
def TA (n:Nat):UInt8:=I7.getD n 0
theorem I8 {n:Nat} (h:n<16):I7[n]?=some (TA n):=lP (d:=I7) (by rw [Ck];exact h)
theorem Lm (x:UInt8):(x.toNat:Int).fdiv (2^min 4 IntKind.u8.bits)=((x.toNat / 16:Nat):Int):=by
 have h:(2:Int)^min 4 IntKind.u8.bits=16:=by decide
 rw [h,Int.fdiv_eq_ediv_of_nonneg _ (by omega)];rfl
theorem Ln (x:UInt8):IntKind.u8.wrap ((x.toNat%2^IntKind.u8.bits&&&15%2^IntKind.u8.bits:Nat):Int)=((x.toNat%16:Nat):Int):=by
 have hx:=x.toNat_lt;have h1:x.toNat%2^IntKind.u8.bits=x.toNat:=Nat.mod_eq_of_lt hx;have h2:15%2^IntKind.u8.bits=2^4-1:=by decide
 rw [h1,h2,Nat.and_two_pow_sub_one_eq_mod];exact wrap_u8 (by omega) (by omega)
def tO (c:UInt8):af:=
 if c.toNat=92 then [92,92] else if c.toNat=10 then [92,110] else if c.toNat=9 then [92,116]
 else if c.toNat<32∨126<c.toNat then [92,120,TA (c.toNat / 16),TA (c.toNat%16)] else [c]
def aB (s:af):af:=s.flatMap tO
theorem tC (c:UInt8):1≤(tO c).length∧(tO c).length≤4:=by
 unfold tO;repeat' split
 all_goals simp
theorem wh (s t:af):aB (s++t)=aB s++aB t:=by simp [aB]
theorem eT (s:af):(aB s).length≤4*s.length:=by
 induction s with
 | nil=>simp [aB]
 | cons c s ih=>have:=tC c;simp only [aB,List.flatMap_cons,List.length_append,List.length_cons] at ih⊢;omega
theorem oK {s:af} {i:Nat} (h:i<s.length):s.take (i+1)=s.take i++ [s.getD i 0]:=by rw [List.take_add_one,List.getElem?_eq_getElem h];simp [List.getD_eq_getElem?_getD,List.getElem?_eq_getElem h]
theorem Pg (l:af) (hl:l.length<1000000) (c:UInt8):
  ar cfg 177 [.ptr 0 0,.int .u8 (c.toNat:Int)] [.var 199 [.ay 1 l.length],.sl ⟨false,some 5,none⟩ 1 (l.map aj)]=
   some (.aT [], [.var 199 [.ay 1 (l++tO c).length],.sl ⟨false,some 5,none⟩ 1 ((l++tO c).map aj)]):=by
 refine ab TB Ph ?_;have hc:=c.toNat_lt;unfold tO;by_cases h1:c.toNat=92
 ·simp (maxSteps:=9^9) (disch:=omega) [-List.map_replicate,-List.map_set,-List.getD_eq_getElem?_getD,-getElem?_pos,-getElem?_neg,om,yp,h1,ae,aj]
 by_cases h2:c.toNat=10
 ·simp (maxSteps:=9^9) (disch:=omega) [-List.map_replicate,-List.map_set,-List.getD_eq_getElem?_getD,-getElem?_pos,-getElem?_neg,om,yp,h2,ae,aj]
 by_cases h3:c.toNat=9
 ·simp (maxSteps:=9^9) (disch:=omega) [-List.map_replicate,-List.map_set,-List.getD_eq_getElem?_getD,-getElem?_pos,-getElem?_neg,om,yp,h3,ae,aj]
 by_cases h4:c.toNat<32∨126<c.toNat
 ·have h5:((c.toNat:Int)<32∨126<(c.toNat:Int)):=by omega
  simp (maxSteps:=9^9) (disch:=omega) [-List.map_replicate,-List.map_set,-List.getD_eq_getElem?_getD,-getElem?_pos,-getElem?_neg,om,yp,h1,h2,h3,h4,h5,ae,aj,Lm,Ln,Ll,I8]
 ·have h5: ¬ ((c.toNat:Int)<32∨126<(c.toNat:Int)):=by omega
  simp (maxSteps:=9^9) (disch:=omega) [-List.map_replicate,-List.map_set,-List.getD_eq_getElem?_getD,-getElem?_pos,-getElem?_neg,om,yp,h1,h2,h3,h4,h5,ae,aj]
theorem uc (s:af) (hs:s.length<200000):ar cfg 135 [.str s] []=some (.str (aB s), []):=by
 refine ab TC Pj ?_;simp (maxSteps:=9^9) (disch:=omega) [-List.map_replicate,-List.map_set,-List.getD_eq_getElem?_getD,-getElem?_pos,-getElem?_neg,om,kT,MN]
 refine Wp.aA (fun i=>s.length-i) (fun (i:Nat)=> [some (.str s),none,some (.ptr 0 0),some (.fn 177 [.ptr 0 0] []),none,none,none,none,some (.int .i64 s.length),some (.int .i64 i),none])
  (fun i=> [.var 199 [.ay 1 (aB (s.take i)).length],.sl ⟨false,some 5,none⟩ 1 ((aB (s.take i)).map aj)]) (fun i=>i≤s.length) ?_ 0 (by omega) (by simp) (by simp [aB])
 intro i hi;by_cases h1:i<s.length
 ·have hg:=lP h1;have hT:=oK h1;have hE:aB (s.take (i+1))=aB (s.take i)++tO (s.getD i 0):=by rw [hT,wh];simp [aB]
  have hl:=eT (s.take i);have hl2:(s.take i).length≤s.length:=by simp;omega
  generalize s.getD i 0=c at hg hE;have ha:=Pg (aB (s.take i)) (by omega) c;rw [←hE] at ha;generalize aB (s.take i)=E at ha hE hl⊢;simp (maxSteps:=9^9) (disch:=omega) [-List.map_replicate,-List.map_set,-List.getD_eq_getElem?_getD,-getElem?_pos,-getElem?_neg,om,hg,ha];exact ⟨i+1,by omega,by omega,by omega,rfl,rfl⟩
 ·obtain rfl:i=s.length:=by omega
  rw [List.take_length];simp (maxSteps:=9^9) (disch:=omega) [-List.map_replicate,-List.map_set,-List.getD_eq_getElem?_getD,-getElem?_pos,-getElem?_neg,om,kT,ax.descOf]
theorem Cl (n:Nat) (hn:n<16):ar cfg 152 [.int .u8 (n:Int)] []=some (.int .u8 ((TA n).toNat:Int), []):=by
 have h: ∀n,n<16→((TA n).toNat:Int)=if n<10 then 48+(n:Int) else 87+(n:Int):=by decide+kernel
 refine ab TD Pk ?_;rw [h n hn];by_cases h1:n<10
 ·simp (maxSteps:=9^9) (disch:=omega) [-List.map_replicate,-List.map_set,-List.getD_eq_getElem?_getD,-getElem?_pos,-getElem?_neg,om,I9,wrap_u8,h1]
 ·simp (maxSteps:=9^9) (disch:=omega) [-List.map_replicate,-List.map_set,-List.getD_eq_getElem?_getD,-getElem?_pos,-getElem?_neg,om,I9,wrap_u8,h1]
theorem zG (s:af) (hs:s.length<200000):ar cfg 100 [.str s] []=some (.str (aB s), []):=by
 refine ab TE Pl ?_;simp (maxSteps:=9^9) (disch:=omega) [-List.map_replicate,-List.map_set,-List.getD_eq_getElem?_getD,-getElem?_pos,-getElem?_neg,om,kT,MO]
 refine Wp.aA (fun i=>s.length-i) (fun (i:Nat)=> [some (.str s),none,some (.str (aB (s.take i))),some (.int .i64 i),none,none,none,none,none,none,none,none,none,none])
  (fun i=> []) (fun i=>i≤s.length) ?_ 0 (by omega) (by simp [aB]) rfl
 intro i hi;by_cases h1:i<s.length
 ·have hg:=lP h1;have hT:=oK h1;have hE:aB (s.take (i+1))=aB (s.take i)++tO (s.getD i 0):=by rw [hT,wh];simp [aB]
  have hl:=eT (s.take i);have hl2:(s.take i).length≤s.length:=by simp;omega
  have hc:=(s.getD i 0).toNat_lt;generalize s.getD i 0=c at hg hE hc;generalize aB (s.take i)=E at hE hl⊢;have fin: ∀X:af,X=tO c→ ∃a,a≤s.length∧s.length-a<s.length-i∧E++X=aB (s.take a)∧(i:Int)+1=a:=fun X hX=>⟨i+1,by omega,by omega,by rw [hE,hX],by omega⟩;unfold tO at fin;by_cases h1:c.toNat=92
  ·simp (maxSteps:=9^9) (disch:=omega) [-List.map_replicate,-List.map_set,-List.getD_eq_getElem?_getD,-getElem?_pos,-getElem?_neg,om,hg,h1];exact fin _ (by simp [h1])
  by_cases h2:c.toNat=10
  ·simp (maxSteps:=9^9) (disch:=omega) [-List.map_replicate,-List.map_set,-List.getD_eq_getElem?_getD,-getElem?_pos,-getElem?_neg,om,hg,h2];exact fin _ (by simp [h2])
  by_cases h3:c.toNat=9
  ·simp (maxSteps:=9^9) (disch:=omega) [-List.map_replicate,-List.map_set,-List.getD_eq_getElem?_getD,-getElem?_pos,-getElem?_neg,om,hg,h3];exact fin _ (by simp [h3])
  have d1:ar cfg 152 [.int .u8 ((c.toNat:Int) / 16)] []=_:=Cl (c.toNat / 16) (by omega);have d2:ar cfg 152 [.int .u8 ((c.toNat:Int)%16)] []=_:=Cl (c.toNat%16) (by omega);by_cases h4:c.toNat<32∨126<c.toNat
  ·have h5:((c.toNat:Int)<32∨126<(c.toNat:Int)):=by omega
   have e1:IntKind.u8.wrap ((c.toNat:Int) / 16)=(c.toNat:Int) / 16:=wrap_u8 (by omega) (by omega);simp (maxSteps:=9^9) (disch:=omega) [-List.map_replicate,-List.map_set,-List.getD_eq_getElem?_getD,-getElem?_pos,-getElem?_neg,om,hg,h1,h2,h3,h4,h5,e1,d1,d2,ax.descOf];exact fin _ (by simp [h1,h2,h3,h4])
  ·have h5: ¬ ((c.toNat:Int)<32∨126<(c.toNat:Int)):=by omega
   simp (maxSteps:=9^9) (disch:=omega) [-List.map_replicate,-List.map_set,-List.getD_eq_getElem?_getD,-getElem?_pos,-getElem?_neg,om,hg,h1,h2,h3,h4,h5,ax.descOf];exact fin _ (by simp [h1,h2,h3,h4])
 ·obtain rfl:i=s.length:=by omega
  rw [List.take_length];simp (maxSteps:=9^9) (disch:=omega) [-List.map_replicate,-List.map_set,-List.getD_eq_getElem?_getD,-getElem?_pos,-getElem?_neg,om,kT]
def GU (c:UInt8):Int:=if 48≤c.toNat∧c.toNat≤57 then (c.toNat:Int)-48 else if 97≤c.toNat∧c.toNat≤102 then (c.toNat:Int)-87 else -1
theorem Ja (c:UInt8): -1≤GU c∧GU c<16:=by
 unfold GU;split
 ·omega
 ·split <;> omega
theorem zH (c:UInt8):ar cfg 187 [.int .u8 (c.toNat:Int)] []=some (.int .i64 (GU c), []):=by
 refine ab TF Pm ?_;have hc:=c.toNat_lt;unfold GU;generalize c.toNat=n at hc;by_cases h1:48≤n∧n≤57
 ·simp (maxSteps:=9^9) (disch:=omega) [-List.map_replicate,-List.map_set,-List.getD_eq_getElem?_getD,-getElem?_pos,-getElem?_neg,om,Fq,h1,wrap_u8]
 by_cases h2:97≤n∧n≤102
 ·simp (maxSteps:=9^9) (disch:=omega) [-List.map_replicate,-List.map_set,-List.getD_eq_getElem?_getD,-getElem?_pos,-getElem?_neg,om,Fq,h1,h2,wrap_u8]
 ·have k1: ¬ ((48:Int)≤n∧(n:Int)≤57):=by omega
  have k2: ¬ ((97:Int)≤n∧(n:Int)≤102):=by omega
  simp (maxSteps:=9^9) (disch:=omega) [-List.map_replicate,-List.map_set,-List.getD_eq_getElem?_getD,-getElem?_pos,-getElem?_neg,om,Fq,h1,h2,k1,k2,wrap_u8]
theorem Pn (a b:Int) (ha:0≤a∧a<16) (hb:0≤b∧b<16):IntKind.u8.wrap (IntKind.i64.wrap (((IntKind.i64.wrap (a*2^min 4 IntKind.i64.bits)%2^IntKind.i64.bits).toNat ||| (b%2^IntKind.i64.bits).toNat:Nat):Int))=((UInt8.ofNat (16*a.toNat+b.toNat)).toNat:Int):=by
 obtain ⟨n,rfl⟩:=Int.eq_ofNat_of_zero_le ha.1;obtain ⟨m,rfl⟩:=Int.eq_ofNat_of_zero_le hb.1;have h: ∀n:Nat,n<16→ ∀m:Nat,m<16→(IntKind.u8.wrap (IntKind.i64.wrap (((IntKind.i64.wrap ((n:Int)*2^min 4 IntKind.i64.bits)%2^IntKind.i64.bits).toNat ||| ((m:Int)%2^IntKind.i64.bits).toNat:Nat):Int)))=((UInt8.ofNat (16*n+m)).toNat:Int):=by decide+kernel
 simp only [Int.toNat_natCast];rw [h n (by omega) m (by omega)]
def pc (s:af) (i:Nat):Option (UInt8×Nat):=
 if (s.getD i 0).toNat≠92 then some (s.getD i 0,1)
 else if s.length≤i+1 then none
 else if (s.getD (i+1) 0).toNat=92 then some (92,2)
 else if (s.getD (i+1) 0).toNat=110 then some (10,2)
 else if (s.getD (i+1) 0).toNat=116 then some (9,2)
 else if (s.getD (i+1) 0).toNat=120∧i+3<s.length∧0≤GU (s.getD (i+2) 0)∧0≤GU (s.getD (i+3) 0) then some (UInt8.ofNat (16*(GU (s.getD (i+2) 0)).toNat+(GU (s.getD (i+3) 0)).toNat),4)
 else none
theorem Jb {s:af} {i:Nat} {c:UInt8} {n:Nat} (h:pc s i=some (c,n)) (hi:i<s.length):1≤n∧i+n≤s.length:=by
 unfold pc at h
 repeat' split at h
 all_goals first
  | cases h;done
  | (cases h;omega)
def D8 (s:af):AV:=match pc s 0 with
 | some (c,n)=> .aT [.int .u8 (c.toNat:Int),.int .i64 n]
 | none=> .aT [.int .u8 0,.int .i64 0]
theorem Jc (s:af) (hs:s≠ []):ar cfg 165 [.str s] []=some (D8 s, []):=by
 refine ab TG Po ?_;have hl:=List.length_pos_iff.2 hs;have g0:=lP (d:=s) (i:=0) (by omega);unfold D8 pc;generalize s.getD 0 0=c0 at g0;by_cases h1:c0.toNat=92
 ·by_cases h2:s.length≤1
  ·simp (maxSteps:=9^9) (disch:=omega) [-List.map_replicate,-List.map_set,-List.getD_eq_getElem?_getD,-getElem?_pos,-getElem?_neg,om,nq,g0,h1]
  ·have g1:=lP (d:=s) (i:=1) (by omega);simp only [Nat.zero_add];generalize s.getD 1 0=c1 at g1;by_cases k1:c1.toNat=92
   ·simp (maxSteps:=9^9) (disch:=omega) [-List.map_replicate,-List.map_set,-List.getD_eq_getElem?_getD,-getElem?_pos,-getElem?_neg,om,nq,g0,g1,h1,k1]
   by_cases k2:c1.toNat=110
   ·simp (maxSteps:=9^9) (disch:=omega) [-List.map_replicate,-List.map_set,-List.getD_eq_getElem?_getD,-getElem?_pos,-getElem?_neg,om,nq,g0,g1,h1,k1,k2]
   by_cases k3:c1.toNat=116
   ·simp (maxSteps:=9^9) (disch:=omega) [-List.map_replicate,-List.map_set,-List.getD_eq_getElem?_getD,-getElem?_pos,-getElem?_neg,om,nq,g0,g1,h1,k1,k2,k3]
   by_cases k4:c1.toNat=120
   ·by_cases h3:s.length<4
    ·simp (maxSteps:=9^9) (disch:=omega) [-List.map_replicate,-List.map_set,-List.getD_eq_getElem?_getD,-getElem?_pos,-getElem?_neg,om,nq,g0,g1,h1,k1,k2,k3,k4]
    ·have g2:=lP (d:=s) (i:=2) (by omega);have g3:=lP (d:=s) (i:=3) (by omega);generalize s.getD 2 0=c2 at g2;generalize s.getD 3 0=c3 at g3;have e2:=Ja c2;have e3:=Ja c3;by_cases k5:0≤GU c2
     ·by_cases k6:0≤GU c3
      ·have b2:=Pn (GU c2) (GU c3) ⟨k5,e2.2⟩ ⟨k6,e3.2⟩;simp (maxSteps:=9^9) (disch:=omega) [-List.map_replicate,-List.map_set,-List.getD_eq_getElem?_getD,-getElem?_pos,-getElem?_neg,om,nq,g0,g1,g2,g3,h1,k1,k2,k3,k4,k5,k6,zH,b2]
      ·simp (maxSteps:=9^9) (disch:=omega) [-List.map_replicate,-List.map_set,-List.getD_eq_getElem?_getD,-getElem?_pos,-getElem?_neg,om,nq,g0,g1,g2,g3,h1,k1,k2,k3,k4,k5,k6,zH]
     ·simp (maxSteps:=9^9) (disch:=omega) [-List.map_replicate,-List.map_set,-List.getD_eq_getElem?_getD,-getElem?_pos,-getElem?_neg,om,nq,g0,g1,g2,g3,h1,k1,k2,k3,k4,k5,zH]
   ·simp (maxSteps:=9^9) (disch:=omega) [-List.map_replicate,-List.map_set,-List.getD_eq_getElem?_getD,-getElem?_pos,-getElem?_neg,om,nq,g0,g1,h1,k1,k2,k3,k4]
 ·simp (maxSteps:=9^9) (disch:=omega) [-List.map_replicate,-List.map_set,-List.getD_eq_getElem?_getD,-getElem?_pos,-getElem?_neg,om,nq,g0,h1]
def GV (s:af) (i:Nat) (out:af):Option af:=
 if hi:i<s.length then
  match hp:pc s i with
  | none=>none
  | some (c,n)=>GV s (i+n) (out++ [c])
 else some out
termination_by s.length-i
decreasing_by
 have:=Jb hp hi;omega
theorem Lo {s:af} {i:Nat} {out:af} (h: ¬ i<s.length):GV s i out=some out:=by rw [GV,dif_neg h]
theorem Jd {s:af} {i:Nat} {out:af} (h:i<s.length) (hp:pc s i=none):GV s i out=none:=by
 rw [GV,dif_pos h];split
 ·rfl
 ·rename_i h2;rw [hp] at h2;cases h2
theorem Je {s:af} {i:Nat} {out:af} {c:UInt8} {n:Nat} (h:i<s.length) (hp:pc s i=some (c,n)):GV s i out=GV s (i+n) (out++ [c]):=by
 rw [GV,dif_pos h];split
 ·rename_i h2;rw [hp] at h2;cases h2
 ·rename_i h2;rw [hp] at h2;cases h2;rfl
def pF (s:af):AV:=match GV s 0 [] with
 | some t=>if aB t=s then .aT [.str t,.bool true] else .aT [.str [],.bool false]
 | none=> .aT [.str [],.bool false]
theorem GW (s:af) (i j:Nat):(s.drop i).getD j 0=s.getD (i+j) 0:=by simp [List.getD_eq_getElem?_getD]
theorem Lp (s:af) (i:Nat) (hi:i<s.length):pc (s.drop i) 0=pc s i:=by
 have e:((s.drop i).length≤1)=(s.length≤i+1):=by rw [List.length_drop];apply propext;omega
 have e3:(3<(s.drop i).length)=(i+3<s.length):=by rw [List.length_drop];apply propext;omega
 unfold pc;simp only [GW,Nat.add_zero,Nat.zero_add,e,e3]
theorem Pb (s:af) (hs:s.length<190000):ar cfg 121 [.str s] []=some (pF s, []):=by
 refine ab TH Pp ?_;simp (maxSteps:=9^9) (disch:=omega) [-List.map_replicate,-List.map_set,-List.getD_eq_getElem?_getD,-getElem?_pos,-getElem?_neg,om,kT,MP]
 refine Wp.aA (fun (a:Nat×af)=>s.length-a.1) (fun a=> [some (.str s),none,none,some (.ay 0 a.2.length),some (.int .i64 a.1),none,none,none,none,none,none,none,none,none,none])
  (fun a=> [.sl ⟨false,some 5,none⟩ 1 (a.2.map aj)]) (fun a=>a.1≤s.length∧a.2.length≤a.1∧GV s a.1 a.2=GV s 0 []) ?_ (0, []) ⟨by simp,by simp,rfl⟩ (by simp) (by simp)
 rintro ⟨i,out⟩ ⟨hi,ho,hu⟩;simp only at hi ho hu⊢;by_cases h1:i<s.length
 ·have hp:=Jc (s.drop i) (by simp;omega);unfold D8 at hp;rw [Lp s i h1] at hp;have e1:(s.take s.length).drop i=s.drop i:=by rw [List.take_length]
  cases hc:pc s i with
  | none=>
   rw [hc] at hp
   have hU:pF s= .aT [.str [],.bool false]:=by unfold pF;rw [←hu,Jd h1 hc]
   simp (maxSteps:=9^9) (disch:=omega) [-List.map_replicate,-List.map_set,-List.getD_eq_getElem?_getD,-getElem?_pos,-getElem?_neg,om,hp,hU]
  | some p=>obtain ⟨c,n⟩:=p;rw [hc] at hp;have hn:=Jb hc h1;simp (maxSteps:=9^9) (disch:=omega) [-List.map_replicate,-List.map_set,-List.getD_eq_getElem?_getD,-getElem?_pos,-getElem?_neg,om,hp];refine ⟨i+n,out++ [c],⟨by omega,by simp;omega,by rw [←Je h1 hc,hu]⟩,by omega,by simp [aj]⟩
 ·obtain rfl:i=s.length:=by omega
  rw [Lo h1] at hu;have he:=uc out (by omega)
  have hU:pF s=if aB out=s then .aT [.str out,.bool true] else .aT [.str [],.bool false]:=by unfold pF;rw [←hu]
  by_cases h2:aB out=s
  ·simp (maxSteps:=9^9) (disch:=omega) [-List.map_replicate,-List.map_set,-List.getD_eq_getElem?_getD,-getElem?_pos,-getElem?_neg,om,he,hU,h2,ax.descOf]
  ·simp (maxSteps:=9^9) (disch:=omega) [-List.map_replicate,-List.map_set,-List.getD_eq_getElem?_getD,-getElem?_pos,-getElem?_neg,om,he,hU,h2,ax.descOf]
def aZ (s:af):Option af:=match GV s 0 [] with
 | some t=>if aB t=s then some t else none
 | none=>none
theorem GK (s:af):pF s=match aZ s with | some t=> .aT [.str t,.bool true] | none=> .aT [.str [],.bool false]:=by
 unfold pF aZ;cases GV s 0 [] with
 | none=>rfl
 | some t=>simp only;split <;> rfl
theorem zI {s t:af} (h:aZ s=some t):aB t=s:=by
 unfold aZ at h;split at h
 ·split at h
  ·rename_i h2;cases h;exact h2
  ·cases h
 ·cases h
theorem Lj {s t:af} (h:aZ s=some t):t.length≤s.length:=by
 rw [←zI h];unfold aB;rw [List.length_flatMap]
 have: ∀l:af,l.length≤(l.map fun c=>(tO c).length).sum:=by
  intro l
  induction l with
  | nil=>simp
  | cons c l ih=>have:=(tC c).1;simp only [List.length_cons,List.map_cons,List.sum_cons];omega
 exact this t
end Go.Proofs.YtfnkchadeaedlaaGreatDoor
