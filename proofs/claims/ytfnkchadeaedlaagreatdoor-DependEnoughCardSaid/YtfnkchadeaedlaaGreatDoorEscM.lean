/-
 Escape and Unescape of markup: program and reference. Unescape of markup: program and reference. Unescape of markup: the reference. Plain laws of escaped texts: what is escaped is unescaped to it; escaped bytes are printable.
-/
import Derived.Test.YtfnkchadeaedlaaGreatDoorIrs
import Derived.Test.YtfnkchadeaedlaaGreatDoorStrM
set_option linter.all false
namespace Go.Proofs.YtfnkchadeaedlaaGreatDoor
open Go.Am
set_option maxRecDepth 10000
set_option maxHeartbeats 4000000
def digs:Str:= [48,49,50,51,52,53,54,55,56,57,97,98,99,100,101,102]
theorem digs_eq:([48,49,50,51,52,53,54,55,56,57,97,98,99,100,101,102]:Str)=digs:=rfl
theorem digs_length:digs.length=16:=rfl
def dgt (n:Nat):UInt8:=digs.getD n 0
theorem get_digs {n:Nat} (h:n<16):digs[n]?=some (dgt n):=get_str (d:=digs) (by rw [digs_length];exact h)
theorem byte_hi (x:UInt8):(x.toNat:Int).fdiv (2^min 4 IntKind.u8.bits)=((x.toNat / 16:Nat):Int):=by
 have h:(2:Int)^min 4 IntKind.u8.bits=16:=by decide
 rw [h,Int.fdiv_eq_ediv_of_nonneg _ (by omega)]
 rfl
theorem byte_lo (x:UInt8):IntKind.u8.wrap ((x.toNat%2^IntKind.u8.bits&&&15%2^IntKind.u8.bits:Nat):Int)=((x.toNat%16:Nat):Int):=by
 have hx:=x.toNat_lt
 have h1:x.toNat%2^IntKind.u8.bits=x.toNat:=Nat.mod_eq_of_lt hx
 have h2:15%2^IntKind.u8.bits=2^4-1:=by decide
 rw [h1,h2,Nat.and_two_pow_sub_one_eq_mod]
 exact wrap_u8 (by omega) (by omega)
def esc1 (c:UInt8):Str:=
 if c.toNat=92 then [92,92] else if c.toNat=10 then [92,110] else if c.toNat=9 then [92,116]
 else if c.toNat<32∨126<c.toNat then [92,120,dgt (c.toNat / 16),dgt (c.toNat%16)] else [c]
def esc (s:Str):Str:=s.flatMap esc1
theorem esc1_length (c:UInt8):1≤(esc1 c).length∧(esc1 c).length≤4:=by
 unfold esc1;repeat' split
 all_goals simp
theorem esc_append (s t:Str):esc (s++t)=esc s++esc t:=by simp [esc]
theorem esc_length (s:Str):(esc s).length≤4*s.length:=by
 induction s with
 | nil=>simp [esc]
 | cons c s ih=>
  have:=esc1_length c
  simp only [esc,List.flatMap_cons,List.length_append,List.length_cons] at ih⊢
  omega
theorem take_succ_get {s:Str} {i:Nat} (h:i<s.length):s.take (i+1)=s.take i++ [s.getD i 0]:=by
 rw [List.take_add_one,List.getElem?_eq_getElem h]
 simp [List.getD_eq_getElem?_getD,List.getElem?_eq_getElem h]
theorem ansAdd (l:Str) (hl:l.length<1000000) (c:UInt8):
  ansF cfg 177 [.ptr 0 0,.int .u8 (c.toNat:Int)] [.var 199 [.osl 1 l.length],.sl ⟨false,some 5,none⟩ 1 (l.map ofByte)]=
   some (.tup [], [.var 199 [.osl 1 (l++esc1 c).length],.sl ⟨false,some 5,none⟩ 1 ((l++esc1 c).map ofByte)]):=by
 refine ans_of_wp fn177 low177 ?_
 have hc:=c.toNat_lt
 unfold esc1
 by_cases h1:c.toNat=92
 ·simp (maxSteps:=9^9) (disch:=omega) [-List.map_replicate,-List.map_set,-List.getD_eq_getElem?_getD,-getElem?_pos,-getElem?_neg,om,ir177,h1,splice,ofByte]
 by_cases h2:c.toNat=10
 ·simp (maxSteps:=9^9) (disch:=omega) [-List.map_replicate,-List.map_set,-List.getD_eq_getElem?_getD,-getElem?_pos,-getElem?_neg,om,ir177,h2,splice,ofByte]
 by_cases h3:c.toNat=9
 ·simp (maxSteps:=9^9) (disch:=omega) [-List.map_replicate,-List.map_set,-List.getD_eq_getElem?_getD,-getElem?_pos,-getElem?_neg,om,ir177,h3,splice,ofByte]
 by_cases h4:c.toNat<32∨126<c.toNat
 ·have h5:((c.toNat:Int)<32∨126<(c.toNat:Int)):=by omega
  simp (maxSteps:=9^9) (disch:=omega) [-List.map_replicate,-List.map_set,-List.getD_eq_getElem?_getD,-getElem?_pos,-getElem?_neg,om,ir177,h1,h2,h3,h4,h5,splice,ofByte,byte_hi,byte_lo,digs_eq,get_digs]
 ·have h5: ¬ ((c.toNat:Int)<32∨126<(c.toNat:Int)):=by omega
  simp (maxSteps:=9^9) (disch:=omega) [-List.map_replicate,-List.map_set,-List.getD_eq_getElem?_getD,-getElem?_pos,-getElem?_neg,om,ir177,h1,h2,h3,h4,h5,splice,ofByte]
theorem ansEscP (s:Str) (hs:s.length<200000):ansF cfg 135 [.str s] []=some (.str (esc s), []):=by
 refine ans_of_wp fn135 low135 ?_
 simp (maxSteps:=9^9) (disch:=omega) [-List.map_replicate,-List.map_set,-List.getD_eq_getElem?_getD,-getElem?_pos,-getElem?_neg,om,byte_fold,ir135]
 refine Wp.loopM (fun i=>s.length-i) (fun (i:Nat)=> [some (.str s),none,some (.ptr 0 0),some (.fn 177 [.ptr 0 0] []),none,none,none,none,some (.int .i64 s.length),some (.int .i64 i),none])
  (fun i=> [.var 199 [.osl 1 (esc (s.take i)).length],.sl ⟨false,some 5,none⟩ 1 ((esc (s.take i)).map ofByte)]) (fun i=>i≤s.length) ?_ 0 (by omega) (by simp) (by simp [esc])
 intro i hi
 by_cases h1:i<s.length
 ·have hg:=get_str h1
  have hT:=take_succ_get h1
  have hE:esc (s.take (i+1))=esc (s.take i)++esc1 (s.getD i 0):=by rw [hT,esc_append];simp [esc]
  have hl:=esc_length (s.take i)
  have hl2:(s.take i).length≤s.length:=by simp;omega
  generalize s.getD i 0=c at hg hE
  have ha:=ansAdd (esc (s.take i)) (by omega) c
  rw [←hE] at ha
  generalize esc (s.take i)=E at ha hE hl⊢
  simp (maxSteps:=9^9) (disch:=omega) [-List.map_replicate,-List.map_set,-List.getD_eq_getElem?_getD,-getElem?_pos,-getElem?_neg,om,hg,ha]
  exact ⟨i+1,by omega,by omega,by omega,rfl,rfl⟩
 ·obtain rfl:i=s.length:=by omega
  rw [List.take_length]
  simp (maxSteps:=9^9) (disch:=omega) [-List.map_replicate,-List.map_set,-List.getD_eq_getElem?_getD,-getElem?_pos,-getElem?_neg,om,byte_fold,Cfg.descOf]
def dig (c:UInt8):Int:=if 48≤c.toNat∧c.toNat≤57 then (c.toNat:Int)-48 else if 97≤c.toNat∧c.toNat≤102 then (c.toNat:Int)-87 else -1
theorem dig_lt (c:UInt8): -1≤dig c∧dig c<16:=by
 unfold dig
 split
 ·omega
 ·split <;> omega
theorem ansHalf (c:UInt8):ansF cfg 187 [.int .u8 (c.toNat:Int)] []=some (.int .i64 (dig c), []):=by
 refine ans_of_wp fn187 low187 ?_
 have hc:=c.toNat_lt
 unfold dig
 generalize c.toNat=n at hc
 by_cases h1:48≤n∧n≤57
 ·simp (maxSteps:=9^9) (disch:=omega) [-List.map_replicate,-List.map_set,-List.getD_eq_getElem?_getD,-getElem?_pos,-getElem?_neg,om,ir187,h1,wrap_u8]
 by_cases h2:97≤n∧n≤102
 ·simp (maxSteps:=9^9) (disch:=omega) [-List.map_replicate,-List.map_set,-List.getD_eq_getElem?_getD,-getElem?_pos,-getElem?_neg,om,ir187,h1,h2,wrap_u8]
 ·have k1: ¬ ((48:Int)≤n∧(n:Int)≤57):=by omega
  have k2: ¬ ((97:Int)≤n∧(n:Int)≤102):=by omega
  simp (maxSteps:=9^9) (disch:=omega) [-List.map_replicate,-List.map_set,-List.getD_eq_getElem?_getD,-getElem?_pos,-getElem?_neg,om,ir187,h1,h2,k1,k2,wrap_u8]
theorem bytes2 (a b:Int) (ha:0≤a∧a<16) (hb:0≤b∧b<16):IntKind.u8.wrap (IntKind.i64.wrap (((IntKind.i64.wrap (a*2^min 4 IntKind.i64.bits)%2^IntKind.i64.bits).toNat ||| (b%2^IntKind.i64.bits).toNat:Nat):Int))=((UInt8.ofNat (16*a.toNat+b.toNat)).toNat:Int):=by
 obtain ⟨n,rfl⟩:=Int.eq_ofNat_of_zero_le ha.1
 obtain ⟨m,rfl⟩:=Int.eq_ofNat_of_zero_le hb.1
 have h: ∀n:Nat,n<16→ ∀m:Nat,m<16→(IntKind.u8.wrap (IntKind.i64.wrap (((IntKind.i64.wrap ((n:Int)*2^min 4 IntKind.i64.bits)%2^IntKind.i64.bits).toNat ||| ((m:Int)%2^IntKind.i64.bits).toNat:Nat):Int)))=((UInt8.ofNat (16*n+m)).toNat:Int):=by decide+kernel
 simp only [Int.toNat_natCast]
 rw [h n (by omega) m (by omega)]
def pc (s:Str) (i:Nat):Option (UInt8×Nat):=
 if (s.getD i 0).toNat≠92 then some (s.getD i 0,1)
 else if s.length≤i+1 then none
 else if (s.getD (i+1) 0).toNat=92 then some (92,2)
 else if (s.getD (i+1) 0).toNat=110 then some (10,2)
 else if (s.getD (i+1) 0).toNat=116 then some (9,2)
 else if (s.getD (i+1) 0).toNat=120∧i+3<s.length∧0≤dig (s.getD (i+2) 0)∧0≤dig (s.getD (i+3) 0) then some (UInt8.ofNat (16*(dig (s.getD (i+2) 0)).toNat+(dig (s.getD (i+3) 0)).toNat),4)
 else none
theorem pc_pos {s:Str} {i:Nat} {c:UInt8} {n:Nat} (h:pc s i=some (c,n)) (hi:i<s.length):1≤n∧i+n≤s.length:=by
 unfold pc at h
 repeat' split at h
 all_goals first
  | cases h;done
  | (cases h;omega)
def pieceA (s:Str):AV:=match pc s 0 with
 | some (c,n)=> .tup [.int .u8 (c.toNat:Int),.int .i64 n]
 | none=> .tup [.int .u8 0,.int .i64 0]
theorem ansPiece (s:Str) (hs:s≠ []):ansF cfg 165 [.str s] []=some (pieceA s, []):=by
 refine ans_of_wp fn165 low165 ?_
 have hl:=List.length_pos_iff.2 hs
 have g0:=get_str (d:=s) (i:=0) (by omega)
 unfold pieceA pc
 generalize s.getD 0 0=c0 at g0
 by_cases h1:c0.toNat=92
 ·by_cases h2:s.length≤1
  ·simp (maxSteps:=9^9) (disch:=omega) [-List.map_replicate,-List.map_set,-List.getD_eq_getElem?_getD,-getElem?_pos,-getElem?_neg,om,ir165,g0,h1]
  ·have g1:=get_str (d:=s) (i:=1) (by omega)
   simp only [Nat.zero_add]
   generalize s.getD 1 0=c1 at g1
   by_cases k1:c1.toNat=92
   ·simp (maxSteps:=9^9) (disch:=omega) [-List.map_replicate,-List.map_set,-List.getD_eq_getElem?_getD,-getElem?_pos,-getElem?_neg,om,ir165,g0,g1,h1,k1]
   by_cases k2:c1.toNat=110
   ·simp (maxSteps:=9^9) (disch:=omega) [-List.map_replicate,-List.map_set,-List.getD_eq_getElem?_getD,-getElem?_pos,-getElem?_neg,om,ir165,g0,g1,h1,k1,k2]
   by_cases k3:c1.toNat=116
   ·simp (maxSteps:=9^9) (disch:=omega) [-List.map_replicate,-List.map_set,-List.getD_eq_getElem?_getD,-getElem?_pos,-getElem?_neg,om,ir165,g0,g1,h1,k1,k2,k3]
   by_cases k4:c1.toNat=120
   ·by_cases h3:s.length<4
    ·simp (maxSteps:=9^9) (disch:=omega) [-List.map_replicate,-List.map_set,-List.getD_eq_getElem?_getD,-getElem?_pos,-getElem?_neg,om,ir165,g0,g1,h1,k1,k2,k3,k4]
    ·have g2:=get_str (d:=s) (i:=2) (by omega)
     have g3:=get_str (d:=s) (i:=3) (by omega)
     generalize s.getD 2 0=c2 at g2
     generalize s.getD 3 0=c3 at g3
     have e2:=dig_lt c2
     have e3:=dig_lt c3
     by_cases k5:0≤dig c2
     ·by_cases k6:0≤dig c3
      ·have b2:=bytes2 (dig c2) (dig c3) ⟨k5,e2.2⟩ ⟨k6,e3.2⟩
       simp (maxSteps:=9^9) (disch:=omega) [-List.map_replicate,-List.map_set,-List.getD_eq_getElem?_getD,-getElem?_pos,-getElem?_neg,om,ir165,g0,g1,g2,g3,h1,k1,k2,k3,k4,k5,k6,ansHalf,b2]
      ·simp (maxSteps:=9^9) (disch:=omega) [-List.map_replicate,-List.map_set,-List.getD_eq_getElem?_getD,-getElem?_pos,-getElem?_neg,om,ir165,g0,g1,g2,g3,h1,k1,k2,k3,k4,k5,k6,ansHalf]
     ·simp (maxSteps:=9^9) (disch:=omega) [-List.map_replicate,-List.map_set,-List.getD_eq_getElem?_getD,-getElem?_pos,-getElem?_neg,om,ir165,g0,g1,g2,g3,h1,k1,k2,k3,k4,k5,ansHalf]
   ·simp (maxSteps:=9^9) (disch:=omega) [-List.map_replicate,-List.map_set,-List.getD_eq_getElem?_getD,-getElem?_pos,-getElem?_neg,om,ir165,g0,g1,h1,k1,k2,k3,k4]
 ·simp (maxSteps:=9^9) (disch:=omega) [-List.map_replicate,-List.map_set,-List.getD_eq_getElem?_getD,-getElem?_pos,-getElem?_neg,om,ir165,g0,h1]
def uns (s:Str) (i:Nat) (out:Str):Option Str:=
 if hi:i<s.length then
  match hp:pc s i with
  | none=>none
  | some (c,n)=>uns s (i+n) (out++ [c])
 else some out
termination_by s.length-i
decreasing_by
 have:=pc_pos hp hi
 omega
theorem uns_end {s:Str} {i:Nat} {out:Str} (h: ¬ i<s.length):uns s i out=some out:=by
 rw [uns,dif_neg h]
theorem uns_none {s:Str} {i:Nat} {out:Str} (h:i<s.length) (hp:pc s i=none):uns s i out=none:=by
 rw [uns,dif_pos h];split
 ·rfl
 ·rename_i h2;rw [hp] at h2;cases h2
theorem uns_some {s:Str} {i:Nat} {out:Str} {c:UInt8} {n:Nat} (h:i<s.length) (hp:pc s i=some (c,n)):uns s i out=uns s (i+n) (out++ [c]):=by
 rw [uns,dif_pos h];split
 ·rename_i h2;rw [hp] at h2;cases h2
 ·rename_i h2;rw [hp] at h2;cases h2;rfl
def unescA (s:Str):AV:=match uns s 0 [] with
 | some t=>if esc t=s then .tup [.str t,.bool true] else .tup [.str [],.bool false]
 | none=> .tup [.str [],.bool false]
theorem getD_drop (s:Str) (i j:Nat):(s.drop i).getD j 0=s.getD (i+j) 0:=by
 simp [List.getD_eq_getElem?_getD]
theorem pc_drop (s:Str) (i:Nat) (hi:i<s.length):pc (s.drop i) 0=pc s i:=by
 have e:((s.drop i).length≤1)=(s.length≤i+1):=by rw [List.length_drop];apply propext;omega
 have e3:(3<(s.drop i).length)=(i+3<s.length):=by rw [List.length_drop];apply propext;omega
 unfold pc
 simp only [getD_drop,Nat.add_zero,Nat.zero_add,e,e3]
theorem ansUnP (s:Str) (hs:s.length<190000):ansF cfg 121 [.str s] []=some (unescA s, []):=by
 refine ans_of_wp fn121 low121 ?_
 simp (maxSteps:=9^9) (disch:=omega) [-List.map_replicate,-List.map_set,-List.getD_eq_getElem?_getD,-getElem?_pos,-getElem?_neg,om,byte_fold,ir121]
 refine Wp.loopM (fun (a:Nat×Str)=>s.length-a.1) (fun a=> [some (.str s),none,none,some (.osl 0 a.2.length),some (.int .i64 a.1),none,none,none,none,none,none,none,none,none,none])
  (fun a=> [.sl ⟨false,some 5,none⟩ 1 (a.2.map ofByte)]) (fun a=>a.1≤s.length∧a.2.length≤a.1∧uns s a.1 a.2=uns s 0 []) ?_ (0, []) ⟨by simp,by simp,rfl⟩ (by simp) (by simp)
 rintro ⟨i,out⟩ ⟨hi,ho,hu⟩
 simp only at hi ho hu⊢
 by_cases h1:i<s.length
 ·have hp:=ansPiece (s.drop i) (by simp;omega)
  unfold pieceA at hp
  rw [pc_drop s i h1] at hp
  have e1:(s.take s.length).drop i=s.drop i:=by rw [List.take_length]
  cases hc:pc s i with
  | none=>
   rw [hc] at hp
   have hU:unescA s= .tup [.str [],.bool false]:=by
    unfold unescA
    rw [←hu,uns_none h1 hc]
   simp (maxSteps:=9^9) (disch:=omega) [-List.map_replicate,-List.map_set,-List.getD_eq_getElem?_getD,-getElem?_pos,-getElem?_neg,om,hp,hU]
  | some p=>
   obtain ⟨c,n⟩:=p
   rw [hc] at hp
   have hn:=pc_pos hc h1
   simp (maxSteps:=9^9) (disch:=omega) [-List.map_replicate,-List.map_set,-List.getD_eq_getElem?_getD,-getElem?_pos,-getElem?_neg,om,hp]
   refine ⟨i+n,out++ [c],⟨by omega,by simp;omega,by rw [←uns_some h1 hc,hu]⟩,by omega,by simp [ofByte]⟩
 ·obtain rfl:i=s.length:=by omega
  rw [uns_end h1] at hu
  have he:=ansEscP out (by omega)
  have hU:unescA s=if esc out=s then .tup [.str out,.bool true] else .tup [.str [],.bool false]:=by
   unfold unescA
   rw [←hu]
  by_cases h2:esc out=s
  ·simp (maxSteps:=9^9) (disch:=omega) [-List.map_replicate,-List.map_set,-List.getD_eq_getElem?_getD,-getElem?_pos,-getElem?_neg,om,he,hU,h2,Cfg.descOf]
  ·simp (maxSteps:=9^9) (disch:=omega) [-List.map_replicate,-List.map_set,-List.getD_eq_getElem?_getD,-getElem?_pos,-getElem?_neg,om,he,hU,h2,Cfg.descOf]
def unesc (s:Str):Option Str:=match uns s 0 [] with
 | some t=>if esc t=s then some t else none
 | none=>none
theorem unescA_eq (s:Str):unescA s=match unesc s with | some t=> .tup [.str t,.bool true] | none=> .tup [.str [],.bool false]:=by
 unfold unescA unesc
 cases uns s 0 [] with
 | none=>rfl
 | some t=>simp only;split <;> rfl
theorem dgt_range: ∀n,n<16→32≤(dgt n).toNat∧(dgt n).toNat≤126:=by decide+kernel
theorem dig_dgt: ∀n,n<16→dig (dgt n)=(n:Int):=by decide+kernel
theorem esc1_range (c x:UInt8) (h:x∈esc1 c):32≤x.toNat∧x.toNat≤126:=by
 have hc:=c.toNat_lt
 have d1:=dgt_range (c.toNat / 16) (by omega)
 have d2:=dgt_range (c.toNat%16) (by omega)
 unfold esc1 at h
 split at h
 ·simp at h;subst h;decide
 split at h
 ·simp at h;rcases h with rfl | rfl <;> decide
 split at h
 ·simp at h;rcases h with rfl | rfl <;> decide
 split at h
 ·simp at h
  rcases h with rfl | rfl | rfl | rfl
  ·decide
  ·decide
  ·exact d1
  ·exact d2
 ·simp at h;subst h;omega
theorem esc_range {s:Str} {x:UInt8} (h:x∈esc s):32≤x.toNat∧x.toNat≤126:=by
 unfold esc at h
 rw [List.mem_flatMap] at h
 obtain ⟨c,_,h2⟩:=h
 exact esc1_range c x h2
theorem pc_esc1 (c:UInt8) (r:Str):pc (esc1 c++r) 0=some (c,(esc1 c).length):=by
 have hc:=c.toNat_lt
 unfold esc1
 split
 ·rename_i h
  have:c=92:=UInt8.toNat_inj.1 h
  subst this
  simp [pc]
 split
 ·rename_i h
  have:c=10:=UInt8.toNat_inj.1 h
  subst this
  simp [pc]
 split
 ·rename_i h
  have:c=9:=UInt8.toNat_inj.1 h
  subst this
  simp [pc]
 split
 ·have d1:=dig_dgt (c.toNat / 16) (by omega)
  have d2:=dig_dgt (c.toNat%16) (by omega)
  have e:16*(c.toNat / 16)+c.toNat%16=c.toNat:=by omega
  simp [pc,d1,d2]
  have e1:((c.toNat:Int) / 16).toNat=c.toNat / 16:=by omega
  have e2:((c.toNat:Int)%16).toNat=c.toNat%16:=by omega
  have e3:UInt8.ofNat (16*(c.toNat / 16)+c.toNat%16)=c:=by rw [e];simp
  simpa using e3
 ·rename_i h _ _ _
  simp [pc,h]
theorem uns_esc: ∀(s a out:Str),uns (a++esc s) a.length out=some (out++s)
 | [],a,out=>by
  rw [uns_end (by simp [esc])];simp
 | c::s,a,out=>by
  have hs:esc (c::s)=esc1 c++esc s:=by simp [esc]
  have hl:=esc1_length c
  rw [hs]
  have hp:pc (a++(esc1 c++esc s)) a.length=some (c,(esc1 c).length):=by
   rw [←pc_drop _ _ (by simp;omega)]
   simp only [List.drop_left]
   exact pc_esc1 c _
  rw [uns_some (by simp;omega) hp,←List.append_assoc,←List.length_append,uns_esc s (a++esc1 c) (out++ [c])]
  simp
theorem unesc_of_esc (s:Str):unesc (esc s)=some s:=by
 unfold unesc
 have h:=uns_esc s [] []
 simp only [List.nil_append,List.length_nil] at h
 rw [h]
 simp
theorem esc_of_unesc {s t:Str} (h:unesc s=some t):esc t=s:=by
 unfold unesc at h
 split at h
 ·split at h
  ·rename_i h2;cases h;exact h2
  ·cases h
 ·cases h
theorem esc_no {s:Str} {c:UInt8} (hc:c.toNat<32):c∉esc s:=fun h=>by
 have:=(esc_range h).1
 omega
theorem esc_len {s t:Str} (h:unesc s=some t):t.length≤s.length:=by
 rw [←esc_of_unesc h]
 unfold esc
 rw [List.length_flatMap]
 have: ∀l:Str,l.length≤(l.map fun c=>(esc1 c).length).sum:=by
  intro l
  induction l with
  | nil=>simp
  | cons c l ih=>
   have:=(esc1_length c).1
   simp only [List.length_cons,List.map_cons,List.sum_cons]
   omega
 exact this t
end Go.Proofs.YtfnkchadeaedlaaGreatDoor
