/-
 Escape and Unescape of markup: program and reference. Unescape of markup: program and reference. Unescape of markup: the reference. Plain laws of escaped texts: what is escaped is unescaped to it; escaped bytes are printable.
-/
import Derived.Test.YtfnkchadeaedlaaGreatDoorIrs
import Derived.Test.YtfnkchadeaedlaaGreatDoorStrM
set_option linter.all false
namespace Go.Proofs.YtfnkchadeaedlaaGreatDoor
open Go.Am
set_option maxRecDepth 10000
set_option maxHeartbeats 4000000
def Hj:ag:= [48,49,50,51,52,53,54,55,56,57,97,98,99,100,101,102]
theorem Jh:([48,49,50,51,52,53,54,55,56,57,97,98,99,100,101,102]:ag)=Hj:=rfl
theorem Bc:Hj.length=16:=rfl
def Rj (n:Nat):UInt8:=Hj.getD n 0
theorem Hk {n:Nat} (h:n<16):Hj[n]?=some (Rj n):=fA (d:=Hj) (by rw [Bc];exact h)
theorem Ji (x:UInt8):(x.toNat:Int).fdiv (2^min 4 IntKind.u8.bits)=((x.toNat / 16:Nat):Int):=by
 have h:(2:Int)^min 4 IntKind.u8.bits=16:=by decide
 rw [h,Int.fdiv_eq_ediv_of_nonneg _ (by omega)];rfl
theorem Jj (x:UInt8):IntKind.u8.wrap ((x.toNat%2^IntKind.u8.bits&&&15%2^IntKind.u8.bits:Nat):Int)=((x.toNat%16:Nat):Int):=by
 have hx:=x.toNat_lt;have h1:x.toNat%2^IntKind.u8.bits=x.toNat:=Nat.mod_eq_of_lt hx;have h2:15%2^IntKind.u8.bits=2^4-1:=by decide
 rw [h1,h2,Nat.and_two_pow_sub_one_eq_mod];exact wrap_u8 (by omega) (by omega)
def sF (c:UInt8):ag:=
 if c.toNat=92 then [92,92] else if c.toNat=10 then [92,110] else if c.toNat=9 then [92,116]
 else if c.toNat<32∨126<c.toNat then [92,120,Rj (c.toNat / 16),Rj (c.toNat%16)] else [c]
def aQ (s:ag):ag:=s.flatMap sF
theorem sr (c:UInt8):1≤(sF c).length∧(sF c).length≤4:=by
 unfold sF;repeat' split
 all_goals simp
theorem u7 (s t:ag):aQ (s++t)=aQ s++aQ t:=by simp [aQ]
theorem iV (s:ag):(aQ s).length≤4*s.length:=by
 induction s with
 | nil=>simp [aQ]
 | cons c s ih=>have:=sr c;simp only [aQ,List.flatMap_cons,List.length_append,List.length_cons] at ih⊢;omega
theorem nP {s:ag} {i:Nat} (h:i<s.length):s.take (i+1)=s.take i++ [s.getD i 0]:=by rw [List.take_add_one,List.getElem?_eq_getElem h];simp [List.getD_eq_getElem?_getD,List.getElem?_eq_getElem h]
theorem M5 (l:ag) (hl:l.length<1000000) (c:UInt8):
  aq cfg 177 [.ptr 0 0,.int .u8 (c.toNat:Int)] [.var 199 [.az 1 l.length],.sl ⟨false,some 5,none⟩ 1 (l.map ah)]=
   some (.aI [], [.var 199 [.az 1 (l++sF c).length],.sl ⟨false,some 5,none⟩ 1 ((l++sF c).map ah)]):=by
 refine ab Rk M6 ?_;have hc:=c.toNat_lt;unfold sF;by_cases h1:c.toNat=92
 ·simp (maxSteps:=9^9) (disch:=omega) [-List.map_replicate,-List.map_set,-List.getD_eq_getElem?_getD,-getElem?_pos,-getElem?_neg,om,xr,h1,af,ah]
 by_cases h2:c.toNat=10
 ·simp (maxSteps:=9^9) (disch:=omega) [-List.map_replicate,-List.map_set,-List.getD_eq_getElem?_getD,-getElem?_pos,-getElem?_neg,om,xr,h2,af,ah]
 by_cases h3:c.toNat=9
 ·simp (maxSteps:=9^9) (disch:=omega) [-List.map_replicate,-List.map_set,-List.getD_eq_getElem?_getD,-getElem?_pos,-getElem?_neg,om,xr,h3,af,ah]
 by_cases h4:c.toNat<32∨126<c.toNat
 ·have h5:((c.toNat:Int)<32∨126<(c.toNat:Int)):=by omega
  simp (maxSteps:=9^9) (disch:=omega) [-List.map_replicate,-List.map_set,-List.getD_eq_getElem?_getD,-getElem?_pos,-getElem?_neg,om,xr,h1,h2,h3,h4,h5,af,ah,Ji,Jj,Jh,Hk]
 ·have h5: ¬ ((c.toNat:Int)<32∨126<(c.toNat:Int)):=by omega
  simp (maxSteps:=9^9) (disch:=omega) [-List.map_replicate,-List.map_set,-List.getD_eq_getElem?_getD,-getElem?_pos,-getElem?_neg,om,xr,h1,h2,h3,h4,h5,af,ah]
theorem sT (s:ag) (hs:s.length<200000):aq cfg 135 [.str s] []=some (.str (aQ s), []):=by
 refine ab Rm M7 ?_;simp (maxSteps:=9^9) (disch:=omega) [-List.map_replicate,-List.map_set,-List.getD_eq_getElem?_getD,-getElem?_pos,-getElem?_neg,om,ia,KB]
 refine Wp.aX (fun i=>s.length-i) (fun (i:Nat)=> [some (.str s),none,some (.ptr 0 0),some (.fn 177 [.ptr 0 0] []),none,none,none,none,some (.int .i64 s.length),some (.int .i64 i),none])
  (fun i=> [.var 199 [.az 1 (aQ (s.take i)).length],.sl ⟨false,some 5,none⟩ 1 ((aQ (s.take i)).map ah)]) (fun i=>i≤s.length) ?_ 0 (by omega) (by simp) (by simp [aQ])
 intro i hi;by_cases h1:i<s.length
 ·have hg:=fA h1;have hT:=nP h1;have hE:aQ (s.take (i+1))=aQ (s.take i)++sF (s.getD i 0):=by rw [hT,u7];simp [aQ]
  have hl:=iV (s.take i);have hl2:(s.take i).length≤s.length:=by simp;omega
  generalize s.getD i 0=c at hg hE;have ha:=M5 (aQ (s.take i)) (by omega) c;rw [←hE] at ha;generalize aQ (s.take i)=E at ha hE hl⊢;simp (maxSteps:=9^9) (disch:=omega) [-List.map_replicate,-List.map_set,-List.getD_eq_getElem?_getD,-getElem?_pos,-getElem?_neg,om,hg,ha];exact ⟨i+1,by omega,by omega,by omega,rfl,rfl⟩
 ·obtain rfl:i=s.length:=by omega
  rw [List.take_length];simp (maxSteps:=9^9) (disch:=omega) [-List.map_replicate,-List.map_set,-List.getD_eq_getElem?_getD,-getElem?_pos,-getElem?_neg,om,ia,ax.descOf]
theorem Bd (n:Nat) (hn:n<16):aq cfg 152 [.int .u8 (n:Int)] []=some (.int .u8 ((Rj n).toNat:Int), []):=by
 have h: ∀n,n<16→((Rj n).toNat:Int)=if n<10 then 48+(n:Int) else 87+(n:Int):=by decide+kernel
 refine ab Rn M8 ?_;rw [h n hn];by_cases h1:n<10
 ·simp (maxSteps:=9^9) (disch:=omega) [-List.map_replicate,-List.map_set,-List.getD_eq_getElem?_getD,-getElem?_pos,-getElem?_neg,om,Hl,wrap_u8,h1]
 ·simp (maxSteps:=9^9) (disch:=omega) [-List.map_replicate,-List.map_set,-List.getD_eq_getElem?_getD,-getElem?_pos,-getElem?_neg,om,Hl,wrap_u8,h1]
theorem Jk (s:ag) (hs:s.length<200000):aq cfg 100 [.str s] []=some (.str (aQ s), []):=by
 refine ab Ro M9 ?_;simp (maxSteps:=9^9) (disch:=omega) [-List.map_replicate,-List.map_set,-List.getD_eq_getElem?_getD,-getElem?_pos,-getElem?_neg,om,ia,KC]
 refine Wp.aX (fun i=>s.length-i) (fun (i:Nat)=> [some (.str s),none,some (.str (aQ (s.take i))),some (.int .i64 i),none,none,none,none,none,none,none,none,none,none])
  (fun i=> []) (fun i=>i≤s.length) ?_ 0 (by omega) (by simp [aQ]) rfl
 intro i hi;by_cases h1:i<s.length
 ·have hg:=fA h1;have hT:=nP h1;have hE:aQ (s.take (i+1))=aQ (s.take i)++sF (s.getD i 0):=by rw [hT,u7];simp [aQ]
  have hl:=iV (s.take i);have hl2:(s.take i).length≤s.length:=by simp;omega
  have hc:=(s.getD i 0).toNat_lt;generalize s.getD i 0=c at hg hE hc;generalize aQ (s.take i)=E at hE hl⊢;have fin: ∀X:ag,X=sF c→ ∃a,a≤s.length∧s.length-a<s.length-i∧E++X=aQ (s.take a)∧(i:Int)+1=a:=fun X hX=>⟨i+1,by omega,by omega,by rw [hE,hX],by omega⟩;unfold sF at fin;by_cases h1:c.toNat=92
  ·simp (maxSteps:=9^9) (disch:=omega) [-List.map_replicate,-List.map_set,-List.getD_eq_getElem?_getD,-getElem?_pos,-getElem?_neg,om,hg,h1];exact fin _ (by simp [h1])
  by_cases h2:c.toNat=10
  ·simp (maxSteps:=9^9) (disch:=omega) [-List.map_replicate,-List.map_set,-List.getD_eq_getElem?_getD,-getElem?_pos,-getElem?_neg,om,hg,h2];exact fin _ (by simp [h2])
  by_cases h3:c.toNat=9
  ·simp (maxSteps:=9^9) (disch:=omega) [-List.map_replicate,-List.map_set,-List.getD_eq_getElem?_getD,-getElem?_pos,-getElem?_neg,om,hg,h3];exact fin _ (by simp [h3])
  have d1:aq cfg 152 [.int .u8 ((c.toNat:Int) / 16)] []=_:=Bd (c.toNat / 16) (by omega);have d2:aq cfg 152 [.int .u8 ((c.toNat:Int)%16)] []=_:=Bd (c.toNat%16) (by omega);by_cases h4:c.toNat<32∨126<c.toNat
  ·have h5:((c.toNat:Int)<32∨126<(c.toNat:Int)):=by omega
   have e1:IntKind.u8.wrap ((c.toNat:Int) / 16)=(c.toNat:Int) / 16:=wrap_u8 (by omega) (by omega);simp (maxSteps:=9^9) (disch:=omega) [-List.map_replicate,-List.map_set,-List.getD_eq_getElem?_getD,-getElem?_pos,-getElem?_neg,om,hg,h1,h2,h3,h4,h5,e1,d1,d2,ax.descOf];exact fin _ (by simp [h1,h2,h3,h4])
  ·have h5: ¬ ((c.toNat:Int)<32∨126<(c.toNat:Int)):=by omega
   simp (maxSteps:=9^9) (disch:=omega) [-List.map_replicate,-List.map_set,-List.getD_eq_getElem?_getD,-getElem?_pos,-getElem?_neg,om,hg,h1,h2,h3,h4,h5,ax.descOf];exact fin _ (by simp [h1,h2,h3,h4])
 ·obtain rfl:i=s.length:=by omega
  rw [List.take_length];simp (maxSteps:=9^9) (disch:=omega) [-List.map_replicate,-List.map_set,-List.getD_eq_getElem?_getD,-getElem?_pos,-getElem?_neg,om,ia]
def u9 (c:UInt8):Int:=if 48≤c.toNat∧c.toNat≤57 then (c.toNat:Int)-48 else if 97≤c.toNat∧c.toNat≤102 then (c.toNat:Int)-87 else -1
theorem yv (c:UInt8): -1≤u9 c∧u9 c<16:=by
 unfold u9;split
 ·omega
 ·split <;> omega
theorem yw (c:UInt8):aq cfg 187 [.int .u8 (c.toNat:Int)] []=some (.int .i64 (u9 c), []):=by
 refine ab Rp Na ?_;have hc:=c.toNat_lt;unfold u9;generalize c.toNat=n at hc;by_cases h1:48≤n∧n≤57
 ·simp (maxSteps:=9^9) (disch:=omega) [-List.map_replicate,-List.map_set,-List.getD_eq_getElem?_getD,-getElem?_pos,-getElem?_neg,om,DY,h1,wrap_u8]
 by_cases h2:97≤n∧n≤102
 ·simp (maxSteps:=9^9) (disch:=omega) [-List.map_replicate,-List.map_set,-List.getD_eq_getElem?_getD,-getElem?_pos,-getElem?_neg,om,DY,h1,h2,wrap_u8]
 ·have k1: ¬ ((48:Int)≤n∧(n:Int)≤57):=by omega
  have k2: ¬ ((97:Int)≤n∧(n:Int)≤102):=by omega
  simp (maxSteps:=9^9) (disch:=omega) [-List.map_replicate,-List.map_set,-List.getD_eq_getElem?_getD,-getElem?_pos,-getElem?_neg,om,DY,h1,h2,k1,k2,wrap_u8]
theorem vc (c:UInt8):aq cfg 192 [.int .u8 (c.toNat:Int)] []=some (.int .i64 (u9 c), []):=by
 refine ab Rq Nb ?_;have hc:=c.toNat_lt;unfold u9;generalize c.toNat=n at hc;by_cases h1:48≤n∧n≤57
 ·simp (maxSteps:=9^9) (disch:=omega) [-List.map_replicate,-List.map_set,-List.getD_eq_getElem?_getD,-getElem?_pos,-getElem?_neg,om,DZ,h1,wrap_u8]
 by_cases h2:97≤n∧n≤102
 ·simp (maxSteps:=9^9) (disch:=omega) [-List.map_replicate,-List.map_set,-List.getD_eq_getElem?_getD,-getElem?_pos,-getElem?_neg,om,DZ,h1,h2,wrap_u8]
 ·have k1: ¬ ((48:Int)≤n∧(n:Int)≤57):=by omega
  have k2: ¬ ((97:Int)≤n∧(n:Int)≤102):=by omega
  simp (maxSteps:=9^9) (disch:=omega) [-List.map_replicate,-List.map_set,-List.getD_eq_getElem?_getD,-getElem?_pos,-getElem?_neg,om,DZ,h1,h2,k1,k2,wrap_u8]
theorem Nc (a b:Int) (ha:0≤a∧a<16) (hb:0≤b∧b<16):IntKind.u8.wrap (IntKind.i64.wrap (((IntKind.i64.wrap (a*2^min 4 IntKind.i64.bits)%2^IntKind.i64.bits).toNat ||| (b%2^IntKind.i64.bits).toNat:Nat):Int))=((UInt8.ofNat (16*a.toNat+b.toNat)).toNat:Int):=by
 obtain ⟨n,rfl⟩:=Int.eq_ofNat_of_zero_le ha.1;obtain ⟨m,rfl⟩:=Int.eq_ofNat_of_zero_le hb.1;have h: ∀n:Nat,n<16→ ∀m:Nat,m<16→(IntKind.u8.wrap (IntKind.i64.wrap (((IntKind.i64.wrap ((n:Int)*2^min 4 IntKind.i64.bits)%2^IntKind.i64.bits).toNat ||| ((m:Int)%2^IntKind.i64.bits).toNat:Nat):Int)))=((UInt8.ofNat (16*n+m)).toNat:Int):=by decide+kernel
 simp only [Int.toNat_natCast];rw [h n (by omega) m (by omega)]
theorem Nf (a b:Int) (ha:0≤a∧a<16) (hb:0≤b∧b<16):IntKind.u8.wrap (16*a+b)=((UInt8.ofNat (16*a.toNat+b.toNat)).toNat:Int):=by
 obtain ⟨n,rfl⟩:=Int.eq_ofNat_of_zero_le ha.1;obtain ⟨m,rfl⟩:=Int.eq_ofNat_of_zero_le hb.1;have h: ∀n:Nat,n<16→ ∀m:Nat,m<16→(IntKind.u8.wrap (16*(n:Int)+(m:Int)))=((UInt8.ofNat (16*n+m)).toNat:Int):=by decide+kernel
 simp only [Int.toNat_natCast];rw [h n (by omega) m (by omega)]
def pc (s:ag) (i:Nat):Option (UInt8×Nat):=
 if (s.getD i 0).toNat≠92 then some (s.getD i 0,1)
 else if s.length≤i+1 then none
 else if (s.getD (i+1) 0).toNat=92 then some (92,2)
 else if (s.getD (i+1) 0).toNat=110 then some (10,2)
 else if (s.getD (i+1) 0).toNat=116 then some (9,2)
 else if (s.getD (i+1) 0).toNat=120∧i+3<s.length∧0≤u9 (s.getD (i+2) 0)∧0≤u9 (s.getD (i+3) 0) then some (UInt8.ofNat (16*(u9 (s.getD (i+2) 0)).toNat+(u9 (s.getD (i+3) 0)).toNat),4)
 else none
theorem yx {s:ag} {i:Nat} {c:UInt8} {n:Nat} (h:pc s i=some (c,n)) (hi:i<s.length):1≤n∧i+n≤s.length:=by
 unfold pc at h
 repeat' split at h
 all_goals first
  | cases h;done
  | (cases h;omega)
def CU (s:ag):AV:=match pc s 0 with
 | some (c,n)=> .aI [.int .u8 (c.toNat:Int),.int .i64 n]
 | none=> .aI [.int .u8 0,.int .i64 0]
theorem Hm (s:ag) (hs:s≠ []):aq cfg 165 [.str s] []=some (CU s, []):=by
 refine ab Rr Ng ?_;have hl:=List.length_pos_iff.2 hs;have g0:=fA (d:=s) (i:=0) (by omega);unfold CU pc;generalize s.getD 0 0=c0 at g0;by_cases h1:c0.toNat=92
 ·by_cases h2:s.length≤1
  ·simp (maxSteps:=9^9) (disch:=omega) [-List.map_replicate,-List.map_set,-List.getD_eq_getElem?_getD,-getElem?_pos,-getElem?_neg,om,mE,g0,h1]
  ·have g1:=fA (d:=s) (i:=1) (by omega);simp only [Nat.zero_add];generalize s.getD 1 0=c1 at g1;by_cases k1:c1.toNat=92
   ·simp (maxSteps:=9^9) (disch:=omega) [-List.map_replicate,-List.map_set,-List.getD_eq_getElem?_getD,-getElem?_pos,-getElem?_neg,om,mE,g0,g1,h1,k1]
   by_cases k2:c1.toNat=110
   ·simp (maxSteps:=9^9) (disch:=omega) [-List.map_replicate,-List.map_set,-List.getD_eq_getElem?_getD,-getElem?_pos,-getElem?_neg,om,mE,g0,g1,h1,k1,k2]
   by_cases k3:c1.toNat=116
   ·simp (maxSteps:=9^9) (disch:=omega) [-List.map_replicate,-List.map_set,-List.getD_eq_getElem?_getD,-getElem?_pos,-getElem?_neg,om,mE,g0,g1,h1,k1,k2,k3]
   by_cases k4:c1.toNat=120
   ·by_cases h3:s.length<4
    ·simp (maxSteps:=9^9) (disch:=omega) [-List.map_replicate,-List.map_set,-List.getD_eq_getElem?_getD,-getElem?_pos,-getElem?_neg,om,mE,g0,g1,h1,k1,k2,k3,k4]
    ·have g2:=fA (d:=s) (i:=2) (by omega);have g3:=fA (d:=s) (i:=3) (by omega);generalize s.getD 2 0=c2 at g2;generalize s.getD 3 0=c3 at g3;have e2:=yv c2;have e3:=yv c3;by_cases k5:0≤u9 c2
     ·by_cases k6:0≤u9 c3
      ·have b2:=Nc (u9 c2) (u9 c3) ⟨k5,e2.2⟩ ⟨k6,e3.2⟩;simp (maxSteps:=9^9) (disch:=omega) [-List.map_replicate,-List.map_set,-List.getD_eq_getElem?_getD,-getElem?_pos,-getElem?_neg,om,mE,g0,g1,g2,g3,h1,k1,k2,k3,k4,k5,k6,yw,b2]
      ·simp (maxSteps:=9^9) (disch:=omega) [-List.map_replicate,-List.map_set,-List.getD_eq_getElem?_getD,-getElem?_pos,-getElem?_neg,om,mE,g0,g1,g2,g3,h1,k1,k2,k3,k4,k5,k6,yw]
     ·simp (maxSteps:=9^9) (disch:=omega) [-List.map_replicate,-List.map_set,-List.getD_eq_getElem?_getD,-getElem?_pos,-getElem?_neg,om,mE,g0,g1,g2,g3,h1,k1,k2,k3,k4,k5,yw]
   ·simp (maxSteps:=9^9) (disch:=omega) [-List.map_replicate,-List.map_set,-List.getD_eq_getElem?_getD,-getElem?_pos,-getElem?_neg,om,mE,g0,g1,h1,k1,k2,k3,k4]
 ·simp (maxSteps:=9^9) (disch:=omega) [-List.map_replicate,-List.map_set,-List.getD_eq_getElem?_getD,-getElem?_pos,-getElem?_neg,om,mE,g0,h1]
def Be (s:ag) (i:Nat) (out:ag):Option ag:=
 if hi:i<s.length then
  match hp:pc s i with
  | none=>none
  | some (c,n)=>Be s (i+n) (out++ [c])
 else some out
termination_by s.length-i
decreasing_by
 have:=yx hp hi;omega
theorem D0 {s:ag} {i:Nat} {out:ag} (h: ¬ i<s.length):Be s i out=some out:=by rw [Be,dif_neg h]
theorem Bf {s:ag} {i:Nat} {out:ag} (h:i<s.length) (hp:pc s i=none):Be s i out=none:=by
 rw [Be,dif_pos h];split
 ·rfl
 ·rename_i h2;rw [hp] at h2;cases h2
theorem Bg {s:ag} {i:Nat} {out:ag} {c:UInt8} {n:Nat} (h:i<s.length) (hp:pc s i=some (c,n)):Be s i out=Be s (i+n) (out++ [c]):=by
 rw [Be,dif_pos h];split
 ·rename_i h2;rw [hp] at h2;cases h2
 ·rename_i h2;rw [hp] at h2;cases h2;rfl
def gI (s:ag):AV:=match Be s 0 [] with
 | some t=>if aQ t=s then .aI [.str t,.bool true] else .aI [.str [],.bool false]
 | none=> .aI [.str [],.bool false]
theorem Fj (s:ag) (i j:Nat):(s.drop i).getD j 0=s.getD (i+j) 0:=by simp [List.getD_eq_getElem?_getD]
theorem Jl (s:ag) (i:Nat) (hi:i<s.length):pc (s.drop i) 0=pc s i:=by
 have e:((s.drop i).length≤1)=(s.length≤i+1):=by rw [List.length_drop];apply propext;omega
 have e3:(3<(s.drop i).length)=(i+3<s.length):=by rw [List.length_drop];apply propext;omega
 unfold pc;simp only [Fj,Nat.add_zero,Nat.zero_add,e,e3]
theorem MX (s:ag) (hs:s.length<190000):aq cfg 121 [.str s] []=some (gI s, []):=by
 refine ab Rs Nh ?_;simp (maxSteps:=9^9) (disch:=omega) [-List.map_replicate,-List.map_set,-List.getD_eq_getElem?_getD,-getElem?_pos,-getElem?_neg,om,ia,KD]
 refine Wp.aX (fun (a:Nat×ag)=>s.length-a.1) (fun a=> [some (.str s),none,none,some (.az 0 a.2.length),some (.int .i64 a.1),none,none,none,none,none,none,none,none,none,none])
  (fun a=> [.sl ⟨false,some 5,none⟩ 1 (a.2.map ah)]) (fun a=>a.1≤s.length∧a.2.length≤a.1∧Be s a.1 a.2=Be s 0 []) ?_ (0, []) ⟨by simp,by simp,rfl⟩ (by simp) (by simp)
 rintro ⟨i,out⟩ ⟨hi,ho,hu⟩;simp only at hi ho hu⊢;by_cases h1:i<s.length
 ·have hp:=Hm (s.drop i) (by simp;omega);unfold CU at hp;rw [Jl s i h1] at hp;have e1:(s.take s.length).drop i=s.drop i:=by rw [List.take_length]
  cases hc:pc s i with
  | none=>
   rw [hc] at hp
   have hU:gI s= .aI [.str [],.bool false]:=by unfold gI;rw [←hu,Bf h1 hc]
   simp (maxSteps:=9^9) (disch:=omega) [-List.map_replicate,-List.map_set,-List.getD_eq_getElem?_getD,-getElem?_pos,-getElem?_neg,om,hp,hU]
  | some p=>obtain ⟨c,n⟩:=p;rw [hc] at hp;have hn:=yx hc h1;simp (maxSteps:=9^9) (disch:=omega) [-List.map_replicate,-List.map_set,-List.getD_eq_getElem?_getD,-getElem?_pos,-getElem?_neg,om,hp];refine ⟨i+n,out++ [c],⟨by omega,by simp;omega,by rw [←Bg h1 hc,hu]⟩,by omega,by simp [ah]⟩
 ·obtain rfl:i=s.length:=by omega
  rw [D0 h1] at hu;have he:=sT out (by omega)
  have hU:gI s=if aQ out=s then .aI [.str out,.bool true] else .aI [.str [],.bool false]:=by unfold gI;rw [←hu]
  by_cases h2:aQ out=s
  ·simp (maxSteps:=9^9) (disch:=omega) [-List.map_replicate,-List.map_set,-List.getD_eq_getElem?_getD,-getElem?_pos,-getElem?_neg,om,he,hU,h2,ax.descOf]
  ·simp (maxSteps:=9^9) (disch:=omega) [-List.map_replicate,-List.map_set,-List.getD_eq_getElem?_getD,-getElem?_pos,-getElem?_neg,om,he,hU,h2,ax.descOf]
theorem yy (n:Nat) (b:List ad) (v:AV):(eX n b v).under n=true:=by
 unfold eX;split
 ·assumption
 ·split
  ·split
   ·assumption
   ·rfl
  ·rfl
theorem kA (k:List Nat) (n i:Nat) (b:List ad) (x:Option AV) (r:List (Option AV)):eH k n i (Option.map (eX n b) x::r)=eH k n (i+1) r:=by
 cases x with
 | none=>rfl
 | some v=>simp only [Option.map_some,eH,yy,Bool.true_or,Bool.true_and]
theorem Ni (s:ag) (hs:s.length<190000):aq cfg 168 [.str s] []=some (gI s, []):=by
 refine ab Rt Nj ?_;simp (maxSteps:=9^9) (disch:=omega) [-List.map_replicate,-List.map_set,-List.getD_eq_getElem?_getD,-getElem?_pos,-getElem?_neg,om,ia,KE]
 refine Wp.aX (fun (a:Nat×ag×Option AV×Option AV)=>s.length-a.1) (fun a=> [some (.str s),none,none,some (.az 0 a.2.1.length),some (.int .i64 a.1),none,none,none,none,none,none,none,none,none,none,none,none,none,none,none,a.2.2.1,a.2.2.2,none,none,none,none,none,none,none])
  (fun a=> [.sl ⟨false,some 5,none⟩ 1 (a.2.1.map ah)]) (fun a=>a.1≤s.length∧a.2.1.length≤a.1∧Be s a.1 a.2.1=Be s 0 []∧ ∀k i r,eH k 1 i (a.2.2.1::a.2.2.2::r)=eH k 1 (i+2) r) ?_ (0, [],none,none) ⟨by simp,by simp,rfl,fun k i r=>by simp⟩ (by simp) (by simp)
 rintro ⟨i,out,x,y⟩ ⟨hi,ho,hu,hxy⟩;simp only at hi ho hu hxy⊢;by_cases h1:i<s.length
 ·have g0:=fA h1
  have hnone:pc s i=none→gI s= .aI [.str [],.bool false]:=fun hc=>by
   unfold gI;rw [←hu,Bf h1 hc]
  have hsome: ∀c n,pc s i=some (c,n)→i+n≤s.length∧1≤n∧Be s (i+n) (out++ [c])=Be s 0 []:=fun c n hc=>⟨(yx hc h1).2,(yx hc h1).1,by rw [←Bg h1 hc,hu]⟩;unfold pc at hnone hsome;generalize s.getD i 0=c0 at g0 hnone hsome;by_cases k0:c0.toNat=92
  ·by_cases h2:s.length≤i+1
   ·have hU:=hnone (by simp [k0,h2]);simp (maxSteps:=9^9) (disch:=omega) [-List.map_replicate,-List.map_set,-List.getD_eq_getElem?_getD,-getElem?_pos,-getElem?_neg,om,hxy,g0,k0,hU]
   ·have g1:=fA (d:=s) (i:=i+1) (by omega);have t1:((i:Int)+1).toNat=i+1:=by omega
    generalize s.getD (i+1) 0=c1 at g1 hnone hsome;by_cases k1:c1.toNat=92
    ·obtain ⟨q1,q2,q3⟩:=hsome 92 2 (by simp [k0,h2,k1]);simp (maxSteps:=9^9) (disch:=omega) [-List.map_replicate,-List.map_set,-List.getD_eq_getElem?_getD,-getElem?_pos,-getElem?_neg,om,hxy,g0,k0,t1,g1,k1];refine ⟨i+2,out++ [92],_,_,⟨by omega,by simp;omega,q3,fun k i r=> ?_⟩,by omega,⟨by simp,by omega,rfl,rfl⟩,by simp [ah]⟩;simp [kA,eH,AV.under]
    by_cases k2:c1.toNat=110
    ·obtain ⟨q1,q2,q3⟩:=hsome 10 2 (by simp [k0,h2,k1,k2]);simp (maxSteps:=9^9) (disch:=omega) [-List.map_replicate,-List.map_set,-List.getD_eq_getElem?_getD,-getElem?_pos,-getElem?_neg,om,hxy,g0,k0,t1,g1,k1,k2];refine ⟨i+2,out++ [10],_,_,⟨by omega,by simp;omega,q3,fun k i r=> ?_⟩,by omega,⟨by simp,by omega,rfl,rfl⟩,by simp [ah]⟩;simp [kA,eH,AV.under]
    by_cases k3:c1.toNat=116
    ·obtain ⟨q1,q2,q3⟩:=hsome 9 2 (by simp [k0,h2,k1,k2,k3]);simp (maxSteps:=9^9) (disch:=omega) [-List.map_replicate,-List.map_set,-List.getD_eq_getElem?_getD,-getElem?_pos,-getElem?_neg,om,hxy,g0,k0,t1,g1,k1,k2,k3];refine ⟨i+2,out++ [9],_,_,⟨by omega,by simp;omega,q3,fun k i r=> ?_⟩,by omega,⟨by simp,by omega,rfl,rfl⟩,by simp [ah]⟩;simp [kA,eH,AV.under]
    by_cases k4:c1.toNat=120
    ·by_cases h3:i+3<s.length
     ·have g2:=fA (d:=s) (i:=i+2) (by omega);have g3:=fA (d:=s) (i:=i+3) h3;have t2:((i:Int)+2).toNat=i+2:=by omega
      have t3:((i:Int)+3).toNat=i+3:=by omega
      generalize s.getD (i+2) 0=c2 at g2 hnone hsome;generalize s.getD (i+3) 0=c3 at g3 hnone hsome;have e2:=yv c2;have e3:=yv c3;by_cases k5:0≤u9 c2
      ·by_cases k6:0≤u9 c3
       ·obtain ⟨q1,q2,q3⟩:=hsome (UInt8.ofNat (16*(u9 c2).toNat+(u9 c3).toNat)) 4 (by simp [k0,h2,k1,k2,k3,k4,h3,k5,k6]);have b3:=Nf (u9 c2) (u9 c3) ⟨k5,e2.2⟩ ⟨k6,e3.2⟩;simp (maxSteps:=9^9) (disch:=omega) [-List.map_replicate,-List.map_set,-List.getD_eq_getElem?_getD,-getElem?_pos,-getElem?_neg,om,hxy,g0,k0,t1,g1,k1,k2,k3,k4,t2,t3,g2,g3,vc,k5,k6,b3,Int.add_assoc];refine ⟨i+4,out++ [UInt8.ofNat (16*(u9 c2).toNat+(u9 c3).toNat)],_,_,⟨by omega,by simp;omega,q3,fun k i r=> ?_⟩,by omega,⟨by simp,by omega,rfl,rfl⟩,by simp [ah]⟩;simp [kA,eH,AV.under]
       ·have hU:=hnone (by simp [k0,h2,k1,k2,k3,k4,h3,k5,k6]);simp (maxSteps:=9^9) (disch:=omega) [-List.map_replicate,-List.map_set,-List.getD_eq_getElem?_getD,-getElem?_pos,-getElem?_neg,om,hxy,g0,k0,t1,g1,k1,k2,k3,k4,t2,t3,g2,g3,vc,k5,k6,hU,Int.add_assoc]
      ·have hU:=hnone (by simp [k0,h2,k1,k2,k3,k4,h3,k5]);simp (maxSteps:=9^9) (disch:=omega) [-List.map_replicate,-List.map_set,-List.getD_eq_getElem?_getD,-getElem?_pos,-getElem?_neg,om,hxy,g0,k0,t1,g1,k1,k2,k3,k4,t2,t3,g2,g3,vc,k5,hU,Int.add_assoc]
     ·have hU:=hnone (by simp [k0,h2,k1,k2,k3,k4,h3]);simp (maxSteps:=9^9) (disch:=omega) [-List.map_replicate,-List.map_set,-List.getD_eq_getElem?_getD,-getElem?_pos,-getElem?_neg,om,hxy,g0,k0,t1,g1,k1,k2,k3,k4,hU,Int.add_assoc]
    ·have hU:=hnone (by simp [k0,h2,k1,k2,k3,k4]);have k4':((c1.toNat:Int)==120)=false:=by rw [beq_eq_false_iff_ne];omega
     simp (maxSteps:=9^9) (disch:=omega) [-List.map_replicate,-List.map_set,-List.getD_eq_getElem?_getD,-getElem?_pos,-getElem?_neg,om,hxy,g0,k0,t1,g1,k1,k2,k3,k4',hU]
  ·obtain ⟨q1,q2,q3⟩:=hsome c0 1 (by simp [k0]);simp (maxSteps:=9^9) (disch:=omega) [-List.map_replicate,-List.map_set,-List.getD_eq_getElem?_getD,-getElem?_pos,-getElem?_neg,om,hxy,g0,k0];refine ⟨i+1,out++ [c0],_,_,⟨by omega,by simp;omega,q3,fun k i r=> ?_⟩,by omega,⟨by simp,by omega,rfl,rfl⟩,by simp [ah]⟩;simp [kA,eH,AV.under]
 ·obtain rfl:i=s.length:=by omega
  rw [D0 h1] at hu;have he:=Jk out (by omega)
  have hU:gI s=if aQ out=s then .aI [.str out,.bool true] else .aI [.str [],.bool false]:=by unfold gI;rw [←hu]
  by_cases h2:aQ out=s
  ·simp (maxSteps:=9^9) (disch:=omega) [-List.map_replicate,-List.map_set,-List.getD_eq_getElem?_getD,-getElem?_pos,-getElem?_neg,om,he,hU,h2,ax.descOf]
  ·simp (maxSteps:=9^9) (disch:=omega) [-List.map_replicate,-List.map_set,-List.getD_eq_getElem?_getD,-getElem?_pos,-getElem?_neg,om,he,hU,h2,ax.descOf]
def al (s:ag):Option ag:=match Be s 0 [] with
 | some t=>if aQ t=s then some t else none
 | none=>none
theorem xm (s:ag):gI s=match al s with | some t=> .aI [.str t,.bool true] | none=> .aI [.str [],.bool false]:=by
 unfold gI al;cases Be s 0 [] with
 | none=>rfl
 | some t=>simp only;split <;> rfl
theorem yz {s t:ag} (h:al s=some t):aQ t=s:=by
 unfold al at h;split at h
 ·split at h
  ·rename_i h2;cases h;exact h2
  ·cases h
 ·cases h
theorem Jf {s t:ag} (h:al s=some t):t.length≤s.length:=by
 rw [←yz h];unfold aQ;rw [List.length_flatMap]
 have: ∀l:ag,l.length≤(l.map fun c=>(sF c).length).sum:=by
  intro l
  induction l with
  | nil=>simp
  | cons c l ih=>have:=(sr c).1;simp only [List.length_cons,List.map_cons,List.sum_cons];omega
 exact this t
end Go.Proofs.YtfnkchadeaedlaaGreatDoor
