/- Chosen facts, labels, citations, by a preference. -/
import Derived.Test.YtfgbpngakkhdcaaGreatDoorAdM
open Bool renaming false_eq_true->aav
open Int renaming toNat_natCast->aa5
open List renaming append_assoc->aa6,append_nil->aa3,drop_eq_getElem_cons->aaB,drop_eq_nil_of_le->aaC,drop_one->aa7,getD_eq_getElem?_getD->aaE,getElem?_eq_getElem->aaF,getElem_mem->aa8,length_cons->aaH,length_eq_zero_iff->aa9,map_cons->aaM,map_nil->aaN,map_replicate->aaO,map_set->aaP,take_left'->aaZ
open Nat renaming le_refl->aa0
set_option linter.all false
namespace Go.Proofs.YtfgbpngakkhdcaaGreatDoor
open Go.Am
set_option maxRecDepth 10000
set_option maxHeartbeats 4000000
theorem vW (order:List ae) (cur f:Fc) (r:List Fc):gy order cur (f::r)=if cur.el≠f.el then cur::gy order f r else if rk order f.lang<rk order cur.lang then gy order f r else gy order cur r:=by rw [gy]
theorem vX (nl:Option Bool) (z:Nat) (l:List Fc) (hz:l≠ []->z=3) (hl:l.length<1000000) (on:Option Bool) (order:List ae) (ho:order.length<1000000):
  aq cfg 94 [.ag nl z (l.map eW),.ag on 1 (aA order)] []=some (.ag none 3 ((an order l).map eW), []):=by
 refine aa YY UR ?_;have hLl:(l.map eW).length=l.length:=by simp
 have hE: ∀k (h:k<l.length),(l.map eW)[k]?=some (.agg [.int .i64 l[k].el,.str l[k].lang,.str l[k].text]):=fun k h=>get_map _ _ h;have hI:=fun w=>lA on 1 order (fun _=>rfl) ho w;simp only [Gx] at hI;generalize l.map eW=E at*
 simp (maxSteps:=9^9) (disch:=omega) [-aaO,-aaP,-aaE,-getElem?_pos,-getElem?_neg,om,UT,hLl];refine Wp.aP (fun (a:Nat×List Fc)=>l.length-a.1) (fun a=> [none,some (.ag on 1 (aA order)),none,some (.ax 0 a.2.length),none,none,some (.ag nl z E),some (.int .i64 l.length),some (.int .i64 a.1),none,none,none,none,none,none,none,none]) (fun a=> [.sl ⟨false,some 76,none⟩ 3 (a.2.map eW)]) (fun a=>a.1<=l.length∧a.2.length<=a.1∧((a.1=0∧a.2= [])∨ ∃done cur,a.2=done++ [cur]∧an order l=done++gy order cur (l.drop a.1))) ?_ (0, []) ⟨by simp,by simp,.inl ⟨rfl,rfl⟩⟩ (by simp) rfl;rintro ⟨i,out⟩ ⟨hil,hol,hx⟩;simp only at hil hol hx⊢;by_cases h1:i<l.length
 ·have hg:=hE i h1;obtain rfl:=hz (ne_of_lt h1);have hd:=aaB h1;rcases hx with ⟨rfl,rfl⟩ | ⟨done,cur,rfl,hx⟩
  ·have h0:an order l= []++gy order l[0] (l.drop 1):=by
    cases l with
    | nil=>simp at h1
    | cons f r=>rfl
   clear hE hz;generalize l[0]=x at*
   simp (maxSteps:=9^9) (disch:=omega) [-aaO,-aaP,-aaE,-getElem?_pos,-getElem?_neg,om,h1,hg,ab];exact ⟨1, [x],⟨by omega,by simp,.inr ⟨[],x,rfl,h0⟩⟩,by omega,⟨rfl,rfl⟩,rfl⟩
  ·rw [hd] at hx;rw [vW] at hx;have hi1:=hI l[i].lang;have hi2:=hI cur.lang;have hpos:0<i:=by have:(done++ [cur]).length<=i:=hol;simp at this;omega
   clear hE hz hI;generalize l[i]=x at*
   have hlast:((done++ [cur]).map eW)[done.length]?=some (.agg [.int .i64 cur.el,.str cur.lang,.str cur.text]):=by simp [eW]
   have hlen:(done++ [cur]).length=done.length+1:=by simp
   have hlen2:((done++ [cur]).map eW).length=done.length+1:=by simp
   have hset:((done++ [cur]).map eW).set done.length (.agg [.int .i64 x.el,.str x.lang,.str x.text])=(done++ [x]).map eW:=by simp [eW,List.set_append]
   have hn1:((done.length:Int)+1-1).toNat=done.length:=by omega
   have happ:(done++ [cur]).map eW++ [.agg [.int .i64 x.el,.str x.lang,.str x.text]]=(done++ [cur]++ [x]).map eW:=by simp [eW]
   have hn0: ¬ ((done.length:Int)+1=0):=by omega
   rw [hlen];generalize hOA:(done++ [cur]).map eW=OA at*
   simp (maxSteps:=9^9) (disch:=omega) [-aaO,-aaP,-aaE,-getElem?_pos,-getElem?_neg,om,h1,hg,ab,hi1,hi2,hlast,hlen2,hset,hn1,happ,hn0];by_cases e1:cur.el=x.el
   ·rw [if_pos e1];rw [if_neg (fun h=>h e1)] at hx;by_cases e2:rk order x.lang<rk order cur.lang
    ·rw [if_pos e2];rw [if_pos e2] at hx;exact ⟨i+1,done++ [x],⟨by omega,by simp at hol⊢;omega,.inr ⟨done,x,rfl,hx⟩⟩,by omega,⟨by simp,by simp⟩,by simp⟩
    ·rw [if_neg e2];rw [if_neg e2] at hx;exact ⟨i+1,done++ [cur],⟨by omega,by simp at hol⊢;omega,.inr ⟨done,cur,rfl,hx⟩⟩,by omega,⟨by simp,by simp⟩,hOA.symm⟩
   ·rw [if_neg e1];rw [if_pos e1] at hx;exact ⟨i+1,done++ [cur]++ [x],⟨by omega,by simp at hol⊢;omega,.inr ⟨done++ [cur],x,rfl,by rw [hx];simp⟩⟩,by omega,⟨by simp,by simp⟩,by simp⟩
 ·have hi2:i=l.length:=by omega
  subst hi2
  have hfin:an order l=out:=by
   rcases hx with ⟨h0,rfl⟩ | ⟨done,cur,rfl,hx⟩
   ·rw [aa9.1 h0];rfl
   ·rw [hx,List.drop_length];rfl
  rw [hfin];simp (maxSteps:=9^9) (disch:=omega) [-aaO,-aaP,-aaE,-getElem?_pos,-getElem?_neg,om,h1]
theorem BP (order:List ae) (el:Int) (t:ae) (b:Int) (l:Lb) (r:List Lb):fV order el t b (l::r)=if l.el=el∧rk order l.lang<b then fV order el l.text (rk order l.lang) r else fV order el t b r:=by rw [fV]
theorem BQ (c:Ct) (hc:c.ok) (el:Int) (h0: -9223372036854775808<=el) (h9:el<=9223372036854775807) (on:Option Bool) (order:List ae) (ho:order.length<1000000):
  aq cfg 98 [b8 c,.int .i64 el,.ag on 1 (aA order)] []=some (.str (gz order c.aD el (gd Lib.itoa el)), []):=by
 refine aa YZ UU ?_;have hbl:=hc.bl;have hbz:=hc.bz;have hil:=Lib.itoa_length_le el h0 h9;have hI:=fun w=>lA on 1 order (fun _=>rfl) ho w;simp only [Gx] at hI;unfold gz gd b8 eV;obtain ⟨d,hd⟩: ∃d,d= [101,108,101,109,101,110,116,32]++Lib.itoa el:=⟨_,rfl⟩;have hd2:101::108::101::109::101::110::116::32::Lib.itoa el=d:=by rw [hd];rfl
 rw [<-hd];generalize c.ao.map cj=A3 at*
 generalize aA c.af=A1 at*
 generalize c.aD=B at*
 generalize c.bz=bz at*
 have hBl:(B.map fD).length=B.length:=by simp
 have hE: ∀k (h:k<B.length),(B.map fD)[k]?=some (.agg [.int .i64 B[k].el,.str B[k].lang,.str B[k].text,.int .i64 B[k].ix]):=fun k h=>get_map _ _ h;generalize B.map fD=E at*
 have hol:(aA order).length=order.length:=ly order;simp (maxSteps:=9^9) (disch:=omega) [-aaO,-aaP,-aaE,-getElem?_pos,-getElem?_neg,om,UW,BO,h0,h9,hBl,hol,hd2];refine Wp.aP (fun (a:Nat×ae×Int)=>B.length-a.1) (fun a=> [none,some (.int .i64 el),some (.ag on 1 (aA order)),none,none,some (.str a.2.1),some (.int .i64 a.2.2),none,none,none,some (.ag c.bn bz E),some (.int .i64 B.length),some (.int .i64 a.1),none,none,none,none]) (fun _=> [.var 26 [.ag c.ln c.lz A1,.ag c.bn bz E,.ag c.sn c.sz A3]]) (fun a=>a.1<=B.length∧fV order el d order.length B=fV order el a.2.1 a.2.2 (B.drop a.1)) ?_ (0,d,order.length) ⟨by simp,by simp⟩ (by simp) rfl;rintro ⟨i,t,b⟩ ⟨hil,hx⟩;simp only at hil hx⊢;rw [hx];clear hx;by_cases h1:i<B.length
 ·have hg:=hE i h1;obtain rfl:bz=4:=hbz (ne_of_lt h1);have hi1:=hI B[i].lang;rw [aaB h1,BP];clear hE hbz hI;generalize B[i]=x at*
  simp (maxSteps:=9^9) (disch:=omega) [-aaO,-aaP,-aaE,-getElem?_pos,-getElem?_neg,om,h1,hg,ab,hi1];by_cases e1:x.el=el∧rk order x.lang<b
  ·rw [if_pos e1];exact ⟨i+1,_,_,⟨by omega,rfl⟩,by omega,rfl,rfl,by simp⟩
  ·rw [if_neg e1];exact ⟨i+1,t,b,⟨by omega,by rw [if_neg e1]⟩,by omega,rfl,rfl,by simp⟩
 ·rw [aaC (by omega)];simp (maxSteps:=9^9) (disch:=omega) [-aaO,-aaP,-aaE,-getElem?_pos,-getElem?_neg,om,h1,fV]
theorem BR (c:Ct) (hc:c.ok) (u:Int) (hb: ∀s∈c.ao,s.mark.length<1000000∧s.title.length<1000000):aq cfg 97 [b8 c,.int .i64 u] []=some (.str (eZ c.ao u), []):=by
 refine aa Y0 UX ?_;have hf:=vw c.sn c.sz c.ao hc.sz hc.sl u;have hz:=hc.sz;unfold eZ b8 eV;cases hi:aY c.ao u with
 | none=>
  rw [hi] at hf;simp only [c6] at hf;have hpl:=cW c.ao;generalize c.ao.map cj=E at*
  simp (maxSteps:=9^9) (disch:=omega) [-aaO,-aaP,-aaE,-getElem?_pos,-getElem?_neg,om,MX,hf,hpl]
 | some i=>
  rw [hi] at hf;simp only [c6] at hf;have hil:=ep hi;have hx:c.ao[i]?=some c.ao[i]:=aaF hil;have hg:=GD c.ao hil;obtain ⟨hb1,hb2⟩:=hb _ (aa8 hil);have hz6:=hz (ne_of_lt hil);have hpl:=cW c.ao;have hBl:(c.ao.map cj).length=c.ao.length:=by simp
  rw [hz6] at hf⊢;simp only [hx];generalize c.ao.map cj=E at*
  generalize c.ao[i]=x at*
  have hil2:(i:Int)<(c.ao.length:Int):=by omega
  by_cases hm:x.mark= []
  ·rw [if_pos hm];simp (maxSteps:=9^9) (disch:=omega) [-aaO,-aaP,-aaE,-getElem?_pos,-getElem?_neg,om,MX,hf,hpl,hg,hBl,hil2,ab,hm]
  ·rw [if_neg hm];have hm2:(x.mark== [])=false:=by simpa using hm
   simp (maxSteps:=9^9) (disch:=omega) [-aaO,-aaP,-aaE,-getElem?_pos,-getElem?_neg,om,MX,hf,hpl,hg,hBl,hil2,ab,hm,hm2]
theorem EM (a b:List ae) (k:Nat):ab (aA a) k (aA b)=aA (a.take k++b++a.drop (k+b.length)):=by simp [ab,aA]
theorem sS (c:Ct) (hc:c.ok) (s:ae) (hs:gP c.af s=true):aq cfg 49 [b8 c,.str s] []=some (.ag none 1 (aA (au c.af s)), []):=by
 refine aa Y4 UY ?_;have hl:=hc.ll;obtain ⟨i,hi⟩:=BS hs;have hil:=MY hi;have hix:=lA none 1 c.af (fun _=>rfl) hl s;rw [EF,hi] at hix;obtain hz:c.lz=1:=hc.lz (ne_of_lt hil);unfold au b8 eV;rw [hi,hz];simp only [Nat.zero_add] at hix⊢;clear hi hs;generalize c.af=L at*
 generalize c.ao.map cj=A3 at*
 generalize c.aD.map fD=A2 at*
 have hLl:(aA L).length=L.length:=ly L;have htk: ∀k,(aA L).take k=aA (L.take k):=fun k=>by simp [aA]
 have hts:L.take L.length=L:=List.take_length
 have hsp:ab (List.replicate L.length (AV.str [])) 0 (aA L)=aA L:=by simp [ab]
 have hpos:0<L.length:=by omega
 by_cases h1:L.length=1
 ·obtain rfl:i=0:=by omega
  obtain ⟨x,rfl⟩:=List.length_eq_one_iff.1 h1;simp only [aA,aaM,aaN] at hix;simp (maxSteps:=9^9) (disch:=omega) [-aaO,-aaP,-aaE,-getElem?_pos,-getElem?_neg,om,Qx,hix,ab,aA]
 ·have h2:(L.take i).length=i:=by simp;omega
  have h3:(aA (L.take i)).take (L.length-1)=aA (L.take i):=List.take_of_length_le (by rw [ly];omega);have h4:=EM L (L.take i) 1;rw [h2,aa6] at h4
  have h5:(aA (L.take 1++(L.take i++L.drop (1+i)))).set 0 (.str s)=aA (s::(L.take i++L.drop (i+1))):=by
   match L,hpos with
   | x::r,_=>simp [aA,Nat.add_comm]
  have h6: ¬ (1:Nat)=L.length:=fun h=>h1 h.symm;have h7:(L.take 1++(L.take i++L.drop (1+i))).length=L.length:=by simp;omega
  have h8:(aA (L.take 1++(L.take i++L.drop (1+i))))[0]?=some (.str ((L.take 1++(L.take i++L.drop (1+i))).getD 0 [])):=BH _ (by rw [h7];exact hpos);simp (maxSteps:=9^9) (disch:=omega) [-aaO,-aaP,-aaE,-getElem?_pos,-getElem?_neg,om,Qx,hix,hLl,htk,hts,hsp,h1,h3,h4,h5,h6,h7,h8,hil]
  try rfl
def kX (m acc:Nat):ae->Nat×Nat
 | []=>(acc,0)
 | c::r=>if 48<=c.toNat∧c.toNat<=57 then (if m<acc*10+(c.toNat-48) then (m,1) else kX m (acc*10+(c.toNat-48)) r) else (0,2)
def MZ (n:Nat):AV:=if n=0 then .gR false else .ma 249 .i64 n
theorem lD (m acc:Nat) (c:UInt8) (r:ae):kX m acc (c::r)=if 48<=c.toNat∧c.toNat<=57 then (if m<acc*10+(c.toNat-48) then (m,1) else kX m (acc*10+(c.toNat-48)) r) else (0,2):=rfl
theorem yG (m:Nat): ∀(s:ae) (acc:Nat),(kX m acc s).2=0∨(kX m acc s).2=1∨(kX m acc s).2=2
 | [],_=> .inl rfl
 | c::r,acc=>by
  rw [lD];split
  ·split
   ·exact .inr (.inl rfl)
   ·exact yG m r _
  ·exact .inr (.inr rfl)
theorem Aj (m:Nat): ∀(s:ae) (acc:Nat),acc<=m->(kX m acc s).1<=m
 | [],_,h=>h
 | c::r,acc,h=>by
  rw [lD];split
  ·split
   ·exact aa0 _
   ·exact Aj m r _ (by omega)
  ·exact Nat.zero_le _
theorem JJ (s:ae) {i:Nat} (h:i<s.length):s.drop i=s.getD i 0::s.drop (i+1):=by rw [aaB h];simp [aaE,h]
theorem HL (s:ae) (c:UInt8):Ak [.str s,ak c]=some (.int .i64 (Lib.indexByte s c)):=by simp [Ak,ak]
theorem q9 (s:ae) (c:UInt8):aq cfg 164 [.str s,ak c] []=some (.int .i64 (Lib.indexByte s c), []):=by
 have h1:aq cfg 195 [.str s,ak c] []=some (.int .i64 (Lib.indexByte s c), []):=by refine aa UZ Qy ?_;simp (maxSteps:=9^9) (disch:=omega) [-aaO,-aaP,-aaE,-getElem?_pos,-getElem?_neg,om,Ph,HL]
 refine aa U0 Qz ?_;simp (maxSteps:=9^9) (disch:=omega) [-aaO,-aaP,-aaE,-getElem?_pos,-getElem?_neg,om,Pj,h1]
theorem JK (c:UInt8): ∃z:Int,aq cfg 225 [ak c] []=some (.int .u8 z, []):=by apply Exists.intro;refine aa U1 QA ?_;simp (maxSteps:=9^9) (disch:=omega) [-aaO,-aaP,-aaE,-getElem?_pos,-getElem?_neg,om,Pk,ak];exact rfl
theorem EN (m:Nat) (bits:Int) (hm:m=1099511627775∧bits=40∨m=65535∧bits=16) (c0:UInt8) (s0:ae) (hl:s0.length<1000000):
  aq cfg 196 [.str (c0::s0),.int .i64 10,.int .i64 bits] []=some (.aL [.int .u64 (kX m 0 (c0::s0)).1,MZ (kX m 0 (c0::s0)).2], []):=by
 refine aa Pl JL ?_;have hb:0<bits∧bits<64:=by omega
 have hsl:(c0::s0).length<1000001:=by simp;omega
 have hne:c0::s0≠ []:=by simp
 generalize c0::s0=s at*
 have hml:(s.map ak).length=s.length:=by simp
 obtain ⟨⟨v,k⟩,hvk⟩: ∃vk:Nat×Nat,vk=kX m 0 s:=⟨_,rfl⟩;rw [<-hvk]
 have hz:(IntKind.u64.wrap (2^min (IntKind.u64.wrap bits).toNat IntKind.u64.bits)-1)=m∧ ¬ IntKind.u64.wrap bits<0∧m<1099511627776:=by rcases hm with ⟨rfl,rfl⟩ | ⟨rfl,rfl⟩ <;> decide
 obtain ⟨z1,z2,z3⟩:=hz;clear hm
 have hw:IntKind.u64.wrap (m:Int)=m:=by show (m:Int)%18446744073709551616=_;omega
 simp (maxSteps:=9^9) (disch:=omega) [-aaO,-aaP,-aaE,-getElem?_pos,-getElem?_neg,om,JM,hne,hb.1,hb.2,z1,z2,av.descOf,hw]
 have hgg: ∀{i:Nat},i<s.length->(s.map ak)[i]?=some (.int .u8 ((s.getD i 0).toNat:Int)):=fun {i} h=>by
  rw [List.getElem?_map,aaF h];simp [aaE,h,ak]
 refine Wp.aP (fun (a:Nat×Nat)=>s.length-a.1) (fun a=> [none,some (.int .i64 10),none,none,none,some (.bool false),some (.str s),some (.int .u64 1844674407370955162),some (.int .u64 m),some (.bool false),some (.int .u64 a.2),none,none,none,none,none,none,none,none,none,none,none,none,none,none,none,none,none,none,none,none,none,some (.ax 1 s.length),some (.int .i64 s.length),some (.int .i64 a.1),none,none,none,none,none,none,none,none,none,none,none,none,none,none,none,none,none]) (fun _=> [.dead,.sl ⟨false,some 5,none⟩ 1 (s.map ak)]) (fun a=>(v,k)=kX m a.2 (s.drop a.1)∧a.1<=s.length∧a.2<=m) ?_ (0,0) ⟨hvk,by simp,by simp⟩ (by simp) rfl;rintro ⟨i,acc⟩ ⟨hi,hil,hac⟩;simp only at hi hil hac⊢;by_cases h1:i<s.length
 ·have hg:=hgg h1;rw [JJ s h1,lD] at hi;generalize s.getD i 0=c at*
  clear hgg;obtain ⟨z,hz⟩:=JK c;simp only [ak] at hz;have w8:IntKind.u8.wrap 10=10:=rfl;have BF:IntKind.u64.wrap 10=10:=rfl;by_cases f1:48<=c.toNat∧c.toNat<=57
  ·rw [if_pos f1] at hi
   have d1:IntKind.u8.wrap ((c.toNat:Int)-48)=((c.toNat-48:Nat):Int):=by show ((c.toNat:Int)-48)%256=_;omega
   have d2: ∀n:Nat,n<18446744073709551616->IntKind.u64.wrap (n:Int)=n:=fun n hn=>by
    show (n:Int)%18446744073709551616=_;omega
   have d3:(acc:Int)*10=((acc*10:Nat):Int):=by omega
   have d4:IntKind.u64.wrap ((acc:Int)*10)=((acc*10:Nat):Int):=by rw [d3,d2 _ (by omega)]
   have d5:IntKind.u64.wrap ((c.toNat-48:Nat):Int)=((c.toNat-48:Nat):Int):=d2 _ (by omega);have d6:IntKind.u64.wrap (((acc*10:Nat):Int)+((c.toNat-48:Nat):Int))=((acc*10+(c.toNat-48):Nat):Int):=by rw [<-Int.natCast_add,d2 _ (by omega)]
   clear d2;generalize hn1:acc*10=n1 at*
   generalize hn2:c.toNat-48=n2 at*
   obtain ⟨f1a,f1b⟩:=f1;by_cases f2:m<n1+n2
   ·rw [if_pos f2] at hi;obtain ⟨rfl,rfl⟩:=Prod.mk.inj hi;simp (maxSteps:=9^9) (disch:=omega) [-aaO,-aaP,-aaE,-getElem?_pos,-getElem?_neg,om,h1,hg,ab,f1a,f1b,w8,BF,d1,d4,d5,d6,MZ]
   ·rw [if_neg f2] at hi;simp (maxSteps:=9^9) (disch:=omega) [-aaO,-aaP,-aaE,-getElem?_pos,-getElem?_neg,om,h1,hg,ab,f1a,f1b,w8,BF,d1,d4,d5,d6];refine ⟨i+1,n1+n2,⟨hi,by omega,by omega⟩,by omega,?_⟩;exact ⟨by omega,by omega⟩
  ·rw [if_neg f1] at hi;obtain ⟨rfl,rfl⟩:=Prod.mk.inj hi;by_cases f3:97<=z
   ·by_cases f4:z<=122
    ·have d7:IntKind.u8.wrap (IntKind.u8.wrap (z-97)+10)=z-87:=by show ((z-97)%256+10)%256=_;omega
     simp (maxSteps:=9^9) (disch:=omega) [-aaO,-aaP,-aaE,-getElem?_pos,-getElem?_neg,om,h1,hg,ab,hz,w8,BF,f1,f3,f4,d7,MZ];intro;omega
    ·simp (maxSteps:=9^9) (disch:=omega) [-aaO,-aaP,-aaE,-getElem?_pos,-getElem?_neg,om,h1,hg,ab,hz,w8,BF,f1,f3,f4,MZ];intro;omega
   ·simp (maxSteps:=9^9) (disch:=omega) [-aaO,-aaP,-aaE,-getElem?_pos,-getElem?_neg,om,h1,hg,ab,hz,w8,BF,f1,f3,MZ];intro;omega
 ·rw [aaC (by omega)] at hi;obtain ⟨rfl,rfl⟩:=Prod.mk.inj hi;simp (maxSteps:=9^9) (disch:=omega) [-aaO,-aaP,-aaE,-getElem?_pos,-getElem?_neg,om,h1,MZ]
def U2 (m:Nat) (s:ae):AV:=if s= [] then .aL [.int .u64 0,.gR true] else .aL [.int .u64 (kX m 0 s).1,.gR (decide ((kX m 0 s).2≠0))]
theorem BT (m:Nat) (bits:Int) (hm:m=1099511627775∧bits=40∨m=65535∧bits=16) (s:ae) (hl:s.length<1000000):
  aq cfg 165 [.str s,.int .i64 10,.int .i64 bits] []=some (U2 m s, []):=by
 refine aa U3 QB ?_;cases s with
 | nil=>
  have h0:aq cfg 196 [.str [],.int .i64 10,.int .i64 bits] []=some (.aL [.int .u64 0,.ma 249 .i64 2], []):=by refine aa Pl JL ?_;simp (maxSteps:=9^9) (disch:=omega) [-aaO,-aaP,-aaE,-getElem?_pos,-getElem?_neg,om,JM]
  simp (maxSteps:=9^9) (disch:=omega) [-aaO,-aaP,-aaE,-getElem?_pos,-getElem?_neg,om,BU,h0,nH,U2]
 | cons c0 s0=>
  have hin:=EN m bits hm c0 s0 (by simp at hl;omega);have hne:c0::s0≠ []:=by simp
  have hcd:=yG m (c0::s0) 0;generalize c0::s0=s at*
  clear hm;unfold U2;rw [if_neg hne];generalize (kX m 0 s).1=v at*
  generalize (kX m 0 s).2=k at*
  rcases hcd with rfl | rfl | rfl
  ·simp (maxSteps:=9^9) (disch:=omega) [-aaO,-aaP,-aaE,-getElem?_pos,-getElem?_neg,om,BU,hin,MZ]
  ·simp (maxSteps:=9^9) (disch:=omega) [-aaO,-aaP,-aaE,-getElem?_pos,-getElem?_neg,om,BU,hin,MZ,nH]
  ·simp (maxSteps:=9^9) (disch:=omega) [-aaO,-aaP,-aaE,-getElem?_pos,-getElem?_neg,om,BU,hin,MZ,nH]
theorem yH: ∀(s:ae) (acc:Nat),re acc s=if (kX 1099511627775 acc s).2=0 then some (kX 1099511627775 acc s).1 else none
 | [],acc=>rfl
 | c::r,acc=>by
  rw [lD];unfold re;by_cases h1:48<=c.toNat∧c.toNat<=57
  ·rw [if_pos h1,if_pos h1];by_cases h2:1099511627775<acc*10+(c.toNat-48)
   ·rw [if_pos h2,if_pos h2];rfl
   ·rw [if_neg h2,if_neg h2,yH r]
  ·rw [if_neg h1,if_neg h1];rfl
theorem yI: ∀(s:ae) (acc:Nat),vj acc s=if (kX 65535 acc s).2=0 then some (kX 65535 acc s).1 else none
 | [],acc=>rfl
 | c::r,acc=>by
  rw [lD];unfold vj;by_cases h1:48<=c.toNat∧c.toNat<=57
  ·rw [if_pos h1,if_pos h1];by_cases h2:65535<acc*10+(c.toNat-48)
   ·rw [if_pos h2,if_pos h2];rfl
   ·rw [if_neg h2,if_neg h2,yI r]
  ·rw [if_neg h1,if_neg h1];rfl
theorem vY (s:ae) (hl:s.length<1000000): ∃(v:Nat) (b:Bool),aq cfg 165 [.str s,.int .i64 10,.int .i64 40] []=some (.aL [.int .u64 v,.gR b], [])∧vx s=(if b then none else some v)∧v<=1099511627775:=by
 have h:=BT 1099511627775 40 (.inl ⟨rfl,rfl⟩) s hl;unfold U2 at h;unfold vx;by_cases h0:s= []
 ·rw [if_pos h0] at h⊢;exact ⟨0,true,h,rfl,by omega⟩
 ·rw [if_neg h0] at h⊢;refine ⟨_,_,h,?_,Aj 1099511627775 s 0 (by omega)⟩;rw [yH];by_cases hk:(kX 1099511627775 0 s).2=0
  ·simp [hk]
  ·simp [hk]
theorem vZ (s:ae) (hl:s.length<1000000): ∃(v:Nat) (b:Bool),aq cfg 165 [.str s,.int .i64 10,.int .i64 16] []=some (.aL [.int .u64 v,.gR b], [])∧kp s=(if b then none else some v)∧v<=65535:=by
 have h:=BT 65535 16 (.inr ⟨rfl,rfl⟩) s hl;unfold U2 at h;unfold kp;by_cases h0:s= []
 ·rw [if_pos h0] at h⊢;exact ⟨0,true,h,rfl,by omega⟩
 ·rw [if_neg h0] at h⊢;refine ⟨_,_,h,?_,Aj 65535 s 0 (by omega)⟩;rw [yI];by_cases hk:(kX 65535 0 s).2=0
  ·simp [hk]
  ·simp [hk]
def Al (p:Int×Int):AV:= .aL [.int .i64 p.1,.int .i64 p.2]
theorem mh: ∀(s:ae) (c:UInt8),-1<=Lib.indexByte s c∧(Lib.indexByte s c<s.length)
 | [],c=>by simp [Lib.indexByte]
 | b::l,c=>by
  have ih:=mh l c;rw [Lib.indexByte];split
  ·simp only [aaH];omega
  ·split
   ·simp only [aaH];omega
   ·simp only [aaH];omega
theorem GJ (s:ae):aq cfg 146 [.str s] []=some (Al (qe s), []):=by
 refine aa U4 QC ?_;have hi:aq cfg 164 [.str s,.int .u8 93] []=some (.int .i64 (Lib.indexByte s 93), []):=q9 s 93;have hb:=mh s 93;have hsd: ∀{j:Nat},j<s.length->s[j]?=some (s.getD j 0):=fun {j} h=>by simp [aaE,h]
 unfold qe;generalize Lib.indexByte s 93=n at*
 by_cases h1:n<2∨11<n
 ·have e:(n<2∨11<n∨s.getD 1 0=48):=by omega
  rw [if_pos e];rcases h1 with h1 | h1
  ·simp (maxSteps:=9^9) (disch:=omega) [-aaO,-aaP,-aaE,-getElem?_pos,-getElem?_neg,om,v7,hi,h1,Al]
  ·simp (maxSteps:=9^9) (disch:=omega) [-aaO,-aaP,-aaE,-getElem?_pos,-getElem?_neg,om,v7,hi,h1,Al]
 ·obtain ⟨n,rfl⟩: ∃k:Nat,n=k:=⟨n.toNat,by omega⟩;have g1:=hsd (j:=1) (by omega);have hn:2<=n∧n<=11:=by omega
  have hnl:n<s.length:=by omega
  clear hsd h1 hb;rw [aa5];obtain ⟨v,b,hp,hpv,hv⟩:=vY ((s.take n).drop 1) (by simp;omega);generalize s.getD 1 0=c at*
  rw [hpv];have hw:(v:Int)%18446744073709551616=v:=by omega
  rw [aa7] at hp;by_cases hc:c=48
  ·subst hc;rw [if_pos (.inr (.inr rfl))];simp (maxSteps:=9^9) (disch:=omega) [-aaO,-aaP,-aaE,-getElem?_pos,-getElem?_neg,om,v7,hi,hn.1,hn.2,g1,ak,Al]
  ·have hc2: ¬ ((c.toNat:Int)=48):=fun h=>hc (UInt8.toNat_inj.mp (by simp;omega));rw [if_neg (fun h=>by rcases h with h | h | h;omega;omega;exact hc h)];cases b with
   | true=>simp (maxSteps:=9^9) (disch:=omega) [-aaO,-aaP,-aaE,-getElem?_pos,-getElem?_neg,om,v7,hi,hn.1,hn.2,g1,ak,Al,hp,hc2]
   | false=>
    simp only [aav,if_false];by_cases hv2:1073741824<v
    ·simp (maxSteps:=9^9) (disch:=omega) [-aaO,-aaP,-aaE,-getElem?_pos,-getElem?_neg,om,v7,hi,hn.1,hn.2,g1,ak,Al,hp,hc2,hv2]
    ·simp (maxSteps:=9^9) (disch:=omega) [-aaO,-aaP,-aaE,-getElem?_pos,-getElem?_neg,om,v7,hi,hn.1,hn.2,g1,ak,Al,hp,hc2,hv2]
theorem BV (s:ae) (h00:s≠ []):aq cfg 113 [.str s] []=some (Al (An s), []):=by
 refine aa U5 QD ?_;have hi:aq cfg 164 [.str s,.int .u8 93] []=some (.int .i64 (Lib.indexByte s 93), []):=q9 s 93;have hb:=mh s 93;have hsd: ∀{j:Nat},j<s.length->s[j]?=some (s.getD j 0):=fun {j} h=>by simp [aaE,h]
 have hs0:0<s.length:=List.length_pos_iff.mpr h00;have g0:=hsd (j:=0) hs0;unfold An;generalize hc0:s.getD 0 0=c0 at*
 by_cases h91:c0=91
 case neg=>
  have hc3: ¬ ((c0.toNat:Int)=91):=fun h=>h91 (UInt8.toNat_inj.mp (by simp;omega));rw [if_pos h91];clear hsd hi;simp (maxSteps:=9^9) (disch:=omega) [-aaO,-aaP,-aaE,-getElem?_pos,-getElem?_neg,om,um,g0,ak,Al,hc3]
 rw [if_neg (by simp [h91])];subst h91;unfold qe;generalize Lib.indexByte s 93=n at*
 by_cases h1:n<2∨11<n
 ·have e:(n<2∨11<n∨s.getD 1 0=48):=by omega
  rw [if_pos e];rcases h1 with h1 | h1
  ·simp (maxSteps:=9^9) (disch:=omega) [-aaO,-aaP,-aaE,-getElem?_pos,-getElem?_neg,om,um,hi,h1,Al,g0,ak]
  ·simp (maxSteps:=9^9) (disch:=omega) [-aaO,-aaP,-aaE,-getElem?_pos,-getElem?_neg,om,um,hi,h1,Al,g0,ak]
 ·obtain ⟨n,rfl⟩: ∃k:Nat,n=k:=⟨n.toNat,by omega⟩;have g1:=hsd (j:=1) (by omega);have hn:2<=n∧n<=11:=by omega
  have hnl:n<s.length:=by omega
  clear hsd h1 hb;rw [aa5];obtain ⟨v,b,hp,hpv,hv⟩:=vY ((s.take n).drop 1) (by simp;omega);generalize s.getD 1 0=c at*
  rw [hpv];have hw:(v:Int)%18446744073709551616=v:=by omega
  rw [aa7] at hp;by_cases hc:c=48
  ·subst hc;rw [if_pos (.inr (.inr rfl))];simp (maxSteps:=9^9) (disch:=omega) [-aaO,-aaP,-aaE,-getElem?_pos,-getElem?_neg,om,um,hi,hn.1,hn.2,g0,g1,ak,Al]
  ·have hc2: ¬ ((c.toNat:Int)=48):=fun h=>hc (UInt8.toNat_inj.mp (by simp;omega));rw [if_neg (fun h=>by rcases h with h | h | h;omega;omega;exact hc h)];cases b with
   | true=>simp (maxSteps:=9^9) (disch:=omega) [-aaO,-aaP,-aaE,-getElem?_pos,-getElem?_neg,om,um,hi,hn.1,hn.2,g0,g1,ak,Al,hp,hc2]
   | false=>
    simp only [aav,if_false];by_cases hv2:1073741824<v
    ·simp (maxSteps:=9^9) (disch:=omega) [-aaO,-aaP,-aaE,-getElem?_pos,-getElem?_neg,om,um,hi,hn.1,hn.2,g0,g1,ak,Al,hp,hc2,hv2]
    ·simp (maxSteps:=9^9) (disch:=omega) [-aaO,-aaP,-aaE,-getElem?_pos,-getElem?_neg,om,um,hi,hn.1,hn.2,g0,g1,ak,Al,hp,hc2,hv2]
def bp (bs:List ad) (a:AV) (s:ae):List ad:=bs++ [.var 178 [a,.ax (bs.length+1) s.length],.sl ⟨false,some 5,none⟩ 1 (s.map ak)]
theorem g7 {bs:List ad} (hs:shut bs.length bs=true) {a:AV} (ha:a= .bZ∨a= .ptr bs.length 0) (s:ae):Qo (bp bs a s) bs.length (bs.length+1) a s:=by
 unfold bp;refine ⟨?_,?_,by omega,ha,by simp,by simp,?_⟩
 ·rw [yJ];rfl
 ·rw [eC];rfl
 ·rw [eF,jj (by simp) hs];rcases ha with rfl | rfl <;> simp [shut,ar,AV.under]
theorem js {bs:List ad} {a:AV} {s t:ae}:iX (bp bs a s) bs.length (bs.length+1) t=bp bs (.ptr bs.length 0) t:=by unfold iX bp;rw [v8,cX];rfl
theorem HM (f:FuncId) (hns:vR f) (j:Nat) (bs:List ad) (hsh:shut bs.length bs=true) (hj:j<bs.length) (nm:Int->ae)
  (hf: ∀u J,aq cfg f [.int .i64 u,.ptr j 0] (bs++J)=some (.str (nm u),bs++J)) (hnm: ∀u,(nm u).length<=1000) (s:ae) (hs:s.length<=10000):
  aq cfg 95 [.str s,.fn f [] [.ptr j 0]] bs=some (.str (bV nm s),bs):=by
 refine aa Y5 U6 ?_;obtain ⟨n1,n2,n3,n4⟩:=hns;simp only [exts,qV,GF,iW] at n1 n2 n3 n4;have hm:=shut_map (aa0 _) hsh;simp (maxSteps:=9^9) (disch:=omega) [-aaO,-aaP,-aaE,-getElem?_pos,-getElem?_neg,om,U7];refine Wp.aP (fun (a:Nat×ae×AV)=>s.length-a.1) (fun a=> [some (.str s),some (.fn f [] [.ptr j 0]),none,some (.ptr bs.length 0),some (.int .i64 a.1),none,none,none,none,none,none,none,none]) (fun a=>bp bs a.2.2 a.2.1) (fun a=>bV nm s=a.2.1++bV nm (s.drop a.1)∧a.1<=s.length∧a.2.1.length<=1000*a.1∧(a.2.2= .bZ∨a.2.2= .ptr bs.length 0)) ?_ (0, [],.bZ) ⟨by simp,by simp,by simp,.inl rfl⟩ (by simp) rfl;rintro ⟨i,out,a⟩ ⟨hi,hil,hol,ha⟩;simp only at hi hil hol ha⊢;have hbl:=g7 hsh ha out;have hBl: ∀a out,(bp bs a out).length=bs.length+2:=fun a out=>by simp [bp]
 by_cases h1:i<s.length
 ·have hg:s[i]?=some (s.getD i 0):=by simp [aaE,h1]
  have hwb:=qX hbl (s.getD i 0) (by omega);rw [js] at hwb;have hd:=JJ s h1;by_cases hp:(aj (s.drop i)).2=0
  ·have hi':bV nm s=out++ [s.getD i 0]++bV nm (s.drop (i+1)):=by rw [hi,hd,mi nm _ _ (by rw [<-hd];exact hp)];simp
   by_cases hc:s.getD i 0=91
   ·have hu:=GJ (s.drop i);rw [hd,hc,qf,<-hc,<-hd] at hu;unfold Al at hu;rw [hp] at hu;generalize (aj (s.drop i)).1=p1 at*
    rw [hc] at hg hwb hi';replace hwb:aq cfg 148 [.ptr bs.length 0,.int .u8 91] _=_:=hwb;have hk2:=hBl a out;have hk3:=hBl (.ptr bs.length 0) (out++ [91]);generalize bp bs a out=B at*
    clear hd hp hc hi hf hbl;simp (maxSteps:=9^9) (disch:=omega) [-aaO,-aaP,-aaE,-getElem?_pos,-getElem?_neg,om,h1,hg,ak,hu,hwb,hk2,hk3];refine ⟨i+1,out++ [91],.ptr bs.length 0,⟨hi',by omega,by simp;omega,.inr rfl⟩,by omega,?_⟩;simp
   ·have hc2: ¬ (((s.getD i 0).toNat:Int)=91):=fun h=>hc (UInt8.toNat_inj.mp (by show _=91;omega));generalize s.getD i 0=c at*
    have hk2:=hBl a out;have hk3:=hBl (.ptr bs.length 0) (out++ [c]);generalize bp bs a out=B at*
    clear hd hp hc hi hf hbl;simp (maxSteps:=9^9) (disch:=omega) [-aaO,-aaP,-aaE,-getElem?_pos,-getElem?_neg,om,h1,hg,ak,hwb,hk2,hk3,hc2];refine ⟨i+1,out++ [c],.ptr bs.length 0,⟨hi',by omega,by simp;omega,.inr rfl⟩,by omega,?_⟩;simp
  ·obtain ⟨q1,q2,q3,q4,q5⟩:=(dt (s.drop i)).resolve_left (fun h=>hp (by rw [h]));have hc:s.getD i 0=91:=by rw [hd] at q5;simpa using q5
   have hu:=GJ (s.drop i);rw [hd,hc,qf,<-hc,<-hd] at hu;unfold Al at hu
   have hi':bV nm s=out++nm (aj (s.drop i)).1++bV nm (s.drop (i+(aj (s.drop i)).2.toNat)):=by rw [hi,kY nm _ hp,List.drop_drop,aa6]
   have hw:aq cfg f [.int .i64 (aj (s.drop i)).1,.ptr j 0] (bp bs a out)=some (.str (nm (aj (s.drop i)).1),bp bs a out):=hf _ _;have hnx:=hnm (aj (s.drop i)).1;have hws:=iB hbl (nm (aj (s.drop i)).1) (by omega) (by omega);rw [js] at hws;obtain ⟨n,hn⟩: ∃n:Nat,(aj (s.drop i)).2=n:=⟨(aj (s.drop i)).2.toNat,by omega⟩;rw [hn] at hu hi' q3 q4;rw [aa5] at hi';have q4':i+n<=s.length:=by simp at q4;omega
   have q3':0<n:=by omega
   generalize nm (aj (s.drop i)).1=x at*
   generalize (aj (s.drop i)).1=p1 at*
   rw [hc] at hg;have hk2:=hBl a out;have hk3:=hBl (.ptr bs.length 0) (out++x);generalize bp bs a out=B at*
   clear hd hp hc hi hf hbl hwb q1 q2 q3 q4 q5 hn;simp (maxSteps:=9^9) (disch:=omega) [-aaO,-aaP,-aaE,-getElem?_pos,-getElem?_neg,om,h1,hg,ak,hu,hw,hws,hk2,hk3,q3',n1,n2,n3,n4];refine ⟨i+n,out++x,.ptr bs.length 0,⟨hi',by omega,by simp;omega,.inr rfl⟩,by omega,?_⟩;simp
 ·rw [aaC (by omega),kq,aa3] at hi;rw [hi];have hfin:(bp bs a out).take bs.length=bs:=by unfold bp;exact aaZ rfl
  by_cases h0:out= []
  ·subst h0;have hst:=ui hbl;have hfs:((bp bs a []).set (bs.length+1) (.sl ⟨false,none,none⟩ 1 [])).take bs.length=bs:=by unfold bp;rw [cX];exact aaZ rfl
   have hk2:=hBl a [];generalize bp bs a []=B at*
   simp (maxSteps:=9^9) (disch:=omega) [-aaO,-aaP,-aaE,-getElem?_pos,-getElem?_neg,om,h1,hst,hfs,hm,hk2]
  ·have hst:=qb hbl (by omega) h0;have hfs:((bp bs a out).set (bs.length+1) (.sl ⟨false,none,none⟩ 1 (out.map ak))).take bs.length=bs:=by unfold bp;rw [cX];exact aaZ rfl
   have hk2:=hBl a out;generalize bp bs a out=B at*
   simp (maxSteps:=9^9) (disch:=omega) [-aaO,-aaP,-aaE,-getElem?_pos,-getElem?_neg,om,h1,hst,hfs,hm,hk2]
theorem uo (s:ae) (h:s.length<1000000):aq cfg 93 [.str s,.str [46]] []=some (.int .i64 (cy s), []):=by refine aa U8 Pm ?_;simp (maxSteps:=9^9) (disch:=omega) [-aaO,-aaP,-aaE,-getElem?_pos,-getElem?_neg,om,QE,Ao,cy,Lib.countByte]
theorem JN (c:Ct) (hc:c.ok) (hb: ∀s∈c.ao,s.mark.length<1000000∧s.title.length<1000000) (u:Int) (j:Nat) (B:List ad) (hj:ad.at B j= .var 26 (eV c)):
  aq cfg 96 [.int .i64 u,.ptr j 0] B=some (.str (eZ c.ao u),B):=by
 refine aa Y6 U9 ?_;have h:=BR c hc u hb;unfold b8 eV at h;simp (maxSteps:=9^9) (disch:=omega) [-aaO,-aaP,-aaE,-getElem?_pos,-getElem?_neg,om,Va,hj,h,eV]
def dO (n:Nd):AV:= .agg [.int .i64 n.depth,.str n.tag,.str n.text]
def du (s:mm):AV:= .agg [.int .i64 s.unit,.str s.num,.ag none 3 (s.nodes.map dO)]
theorem sT (order:List ae): ∀(r:List Fc) (cur:Fc),(gy order cur r).length<=r.length+1
 | [],cur=>by simp [gy]
 | f::r,cur=>by
  have h1:=sT order r f;have h2:=sT order r cur;rw [vW];split
  ·simp only [aaH];omega
  ·split <;> simp only [aaH] <;> omega
theorem gf (order:List ae): ∀l:List Fc,(an order l).length<=l.length
 | []=>aa0 _
 | f::r=>sT order r f
theorem uq {nm:Int->ae} (h: ∀u,(nm u).length<=1000): ∀s:ae,(bV nm s).length<=1000*s.length:=by
 suffices H: ∀(n:Nat) (s:ae),s.length<=n->(bV nm s).length<=1000*s.length from fun s=>H _ s (aa0 _)
 intro n
 induction n with
 | zero=>intro s hs;have:s= []:=aa9.mp (by omega);subst this;simp [kq]
 | succ n ih=>
  intro s hs;cases s with
  | nil=>simp [kq]
  | cons c r=>
   by_cases hp:(aj (c::r)).2=0
   ·rw [mi nm _ _ hp];have:=ih r (by simp at hs;omega);simp only [aaH];omega
   ·obtain ⟨q1,q2,q3,q4,q5⟩:=(dt (c::r)).resolve_left (fun h=>hp (by rw [h]));rw [kY nm _ hp];have h1:=h (aj (c::r)).1;have h2:=ih ((c::r).drop (aj (c::r)).2.toNat) (by simp at hs⊢;omega);simp only [List.length_append,List.length_drop] at h2⊢;omega
theorem EO (c:Ct) (hc:c.ok) (hb: ∀s∈c.ao,s.mark.length<1000000∧s.title.length<1000000) (hcl: ∀u,(eZ c.ao u).length<=1000) (x:Sh) (num:ae) (hnl:num.length<10000) (hxo:x.ok) (hxl:1<=x.level∧x.level<=4)
  (hxt:x.title.length<10000) (on:Option Bool) (order:List ae) (ho:order.length<1000000) (hnb: ∀el,-9223372036854775808<=el->el<=9223372036854775807->(gz order c.aD el (gd Lib.itoa el)).length<=10000000) (hft: ∀f∈x.facts,f.text.length<=10000∧ -9223372036854775808<=f.el∧f.el<=9223372036854775807):
  aq cfg 52 [b8 c,cj x,.str num,.ag on 1 (aA order)] []=some (du (kZ Lib.itoa order c (x,num)), []):=by
 refine aa Y7 Vb ?_;have hcnt:=uo num (by omega);have hch:=vX x.fn x.fz x.facts hxo.fz hxo.fl on order ho;have hsx:cj x= .agg [.int .i64 x.unit,.int .i64 x.par,.int .i64 x.level,.str x.mark,.str x.title,.ag x.fn x.fz (x.facts.map eW)]:=rfl
 have hlev:([.str [],.str [102,111,110,100,115],.str [115,101,114,105,101,115],.str [102,105,108,101],.str [105,116,101,109]]:List AV)[x.level.toNat]?=some (.str (g8 x.level)):=by
  have:x.level=1∨x.level=2∨x.level=3∨x.level=4:=by omega
  rcases this with h | h | h | h <;> rw [h] <;> rfl
 have hxl2:x.level.toNat<5:=by omega
 rw [hsx];have hsecN:(kZ Lib.itoa order c (x,num)).nodes=⟨cy num,g8 x.level,num++32::x.title⟩::(yK (cy num+1) x++(an order x.facts).map (yL Lib.itoa order c (cy num+1))):=by simp [kZ]
 have hse:du (kZ Lib.itoa order c (x,num))= .agg [.int .i64 x.unit,.str num,.ag none 3 ((kZ Lib.itoa order c (x,num)).nodes.map dO)]:=rfl;rw [hse,hsecN];have hs1:=fun u B hj=>JN c hc hb u 0 B hj;have hnm: ∀el,-9223372036854775808<=el->el<=9223372036854775807->aq cfg 98 [b8 c,.int .i64 el,.ag on 1 (aA order)] []=some (.str (gz order c.aD el (gd Lib.itoa el)), []):=fun el h0 h9=>BQ c hc el h0 h9 on order ho;unfold b8 eV at*
 generalize aA c.af=L1 at*
 generalize c.aD.map fD=L2 at*
 generalize c.ao.map cj=L3 at*
 generalize aA order=OA at*
 generalize x.facts.map eW=FA at*
 generalize hCA:(an order x.facts).map eW=CA at*
 have hCl:CA.length=(an order x.facts).length:=by rw [<-hCA];simp
 clear hsx;have hdl:cy num<=num.length:=List.count_le_length;have hw:IntKind.i64.wrap ((cy num:Int)+1)=cy num+1:=wrap_i64 (by omega) (by omega);have hCHl:(an order x.facts).length<=1000000:=Nat.le_trans (gf order x.facts) (by have:=hxo.fl;omega)
 have hCHm: ∀i (h:i<(an order x.facts).length),CA[i]?=some (.agg [.int .i64 (an order x.facts)[i].el,.str (an order x.facts)[i].lang,.str (an order x.facts)[i].text])∧(an order x.facts)[i].text.length<=10000∧ -9223372036854775808<=(an order x.facts)[i].el∧(an order x.facts)[i].el<=9223372036854775807:=fun i h=>by
  obtain ⟨h1,h2,h3⟩:=hft _ (aM (aa8 h));refine ⟨?_,h1,h2,h3⟩;rw [<-hCA];exact get_map _ _ h
 have hexp: ∀(t:ae) (R:List ad),t.length<=10000->shut (R.length+1) R=true->aq cfg 95 [.str t,.fn 96 [] [.ptr 0 0]] (.var 26 [.ag c.ln c.lz L1,.ag c.bn c.bz L2,.ag c.sn c.sz L3]::R)=some (.str (bV (eZ c.ao) t),.var 26 [.ag c.ln c.lz L1,.ag c.bn c.bz L2,.ag c.sn c.sz L3]::R):=fun t R ht hR=>by
  refine HM 96 ⟨rfl,rfl,rfl,rfl⟩ 0 _ (by simpa [shut,ar,AV.under] using hR) (by simp) (eZ c.ao) (fun u J=>hs1 u _ ?_) (fun u=>hcl u) t ht;simp [ad.at]
 generalize hCH:an order x.facts=CH at*
 have hNFl:(dO ⟨cy num,g8 x.level,num++32::x.title⟩)= .agg [.int .i64 (cy num),.str (g8 x.level),.str (num++32::x.title)]:=rfl;generalize hFNd:yL Lib.itoa order c ((cy num:Int)+1)=FN at*
 generalize hNF:(⟨cy num,g8 x.level,num++32::x.title⟩::(yK (cy num+1) x++CH.map FN):List Nd)=NF at*
 by_cases hmk:x.mark= []
 ·rw [hmk];simp (maxSteps:=9^9) (disch:=omega) [-aaO,-aaP,-aaE,-getElem?_pos,-getElem?_neg,om,QF,hcnt,hch,ab,hlev,hxl2,hCl]
  refine Wp.aP (fun (a:Nat×List Nd)=>CH.length-a.1) (fun a=> [none,none,none,some (.ag on 1 OA),some (.ptr 0 0),none,some (.ptr 2 0),some (.int .i64 (cy num)),none,some (.ptr 6 0),none,none,none,none,none,none,none,none,none,none,none,none,none,some (.ag none 3 CA),some (.int .i64 CH.length),some (.int .i64 a.1),none,none,none,none,none,none,none,none,none,none]) (fun a=> [.var 26 [.ag c.ln c.lz L1,.ag c.bn c.bz L2,.ag c.sn c.sz L3],.var 74 [.int .i64 x.unit,.int .i64 x.par,.int .i64 x.level,.str [],.str x.title,.ag x.fn x.fz FA],.var 58 [.int .i64 0,.str [],.ax 3 0],.sl ⟨false,some 129,none⟩ 3 [],.var 137 [.str [],.str [102,111,110,100,115],.str [115,101,114,105,101,115],.str [102,105,108,101],.str [105,116,101,109]],.sl ⟨false,some 129,none⟩ 3 (a.2.map dO),.var 58 [.int .i64 x.unit,.str num,.ax 5 a.2.length]])
   (fun a=>NF=a.2++(CH.drop a.1).map FN∧a.1<=CH.length∧a.2.length<=a.1+2) ?_ (0, [⟨cy num,g8 x.level,num++32::x.title⟩]) ⟨by simp [<-hNF,yK,hmk],by simp,by simp⟩ (by simp) (by simp [dO])
  rintro ⟨i,N⟩ ⟨hi,hil,hNl⟩;simp only at hi hil hNl⊢;rw [hi];by_cases h1:i<CH.length
  ·obtain ⟨hg,ht,hel1,hel2⟩:=hCHm i h1;have hn:=hnm CH[i].el hel1 hel2;have hx:=hexp CH[i].text [.var 74 [.int .i64 x.unit,.int .i64 x.par,.int .i64 x.level,.str [],.str x.title,.ag x.fn x.fz FA],.var 58 [.int .i64 0,.str [],.ax 3 0],.sl ⟨false,some 129,none⟩ 3 [],.var 137 [.str [],.str [102,111,110,100,115],.str [115,101,114,105,101,115],.str [102,105,108,101],.str [105,116,101,109]],.sl ⟨false,some 129,none⟩ 3 (N.map dO),.var 58 [.int .i64 x.unit,.str num,.ax 5 N.length],.var 76 [.int .i64 CH[i].el,.str CH[i].lang,.str CH[i].text]] ht (by simp [shut,ar,AV.under,cL]);rw [aaB h1,aaM] at hi⊢;have hFN:FN CH[i]=⟨(cy num:Int)+1, [112],gz order c.aD CH[i].el (gd Lib.itoa CH[i].el)++58::32::bV (eZ c.ao) CH[i].text⟩:=by rw [<-hFNd];simp [yL]
   have hNd:FN CH[i]::(CH.drop (i+1)).map FN= [FN CH[i]]++(CH.drop (i+1)).map FN:=rfl;have hNm:(N.map dO).length=N.length:=by simp
   have hxtl:=uq hcl CH[i].text;have hnml:=hnb CH[i].el hel1 hel2;generalize CH[i]=f at*
   generalize gz order c.aD f.el (gd Lib.itoa f.el)=nm at*
   generalize bV (eZ c.ao) f.text=xt at*
   clear hCHm hexp hnm hs1 hi hsecN hlev hb hcl hft hch hNF hnb;simp (maxSteps:=9^9) (disch:=omega) [-aaO,-aaP,-aaE,-getElem?_pos,-getElem?_neg,om,h1,hg,ab,hn,hx,hw,hNm];refine ⟨i+1,N++ [FN f],⟨by simp,by omega,by simp;omega⟩,by omega,?_⟩;exact ⟨by omega,by simp [dO,hFN],by simp⟩
  ·rw [aaC (by omega),aaN,aa3] at hi⊢;simp (maxSteps:=9^9) (disch:=omega) [-aaO,-aaP,-aaE,-getElem?_pos,-getElem?_neg,om,h1,ab]
 ·simp (maxSteps:=9^9) (disch:=omega) [-aaO,-aaP,-aaE,-getElem?_pos,-getElem?_neg,om,QF,hcnt,hch,ab,hlev,hxl2,hCl,hmk,hw]
  refine Wp.aP (fun (a:Nat×List Nd)=>CH.length-a.1) (fun a=> [none,none,none,some (.ag on 1 OA),some (.ptr 0 0),none,some (.ptr 2 0),some (.int .i64 (cy num)),none,some (.ptr 6 0),none,none,none,none,none,none,none,none,none,none,none,none,none,some (.ag none 3 CA),some (.int .i64 CH.length),some (.int .i64 a.1),none,none,none,none,none,none,none,none,none,none]) (fun a=> [.var 26 [.ag c.ln c.lz L1,.ag c.bn c.bz L2,.ag c.sn c.sz L3],.var 74 [.int .i64 x.unit,.int .i64 x.par,.int .i64 x.level,.str x.mark,.str x.title,.ag x.fn x.fz FA],.var 58 [.int .i64 0,.str [],.ax 3 0],.sl ⟨false,some 129,none⟩ 3 [],.var 137 [.str [],.str [102,111,110,100,115],.str [115,101,114,105,101,115],.str [102,105,108,101],.str [105,116,101,109]],.sl ⟨false,some 129,none⟩ 3 (a.2.map dO),.var 58 [.int .i64 x.unit,.str num,.ax 5 a.2.length],.sl ⟨false,some 129,none⟩ 3 [.agg [.int .i64 ((cy num:Int)+1),.str [109,97,114,107],.str x.mark]],.dead])
   (fun a=>NF=a.2++(CH.drop a.1).map FN∧a.1<=CH.length∧a.2.length<=a.1+2) ?_ (0, [⟨cy num,g8 x.level,num++32::x.title⟩,⟨(cy num:Int)+1, [109,97,114,107],x.mark⟩]) ⟨by simp [<-hNF,yK,hmk],by simp,by simp⟩ (by simp) (by simp [dO])
  rintro ⟨i,N⟩ ⟨hi,hil,hNl⟩;simp only at hi hil hNl⊢;rw [hi];by_cases h1:i<CH.length
  ·obtain ⟨hg,ht,hel1,hel2⟩:=hCHm i h1;have hn:=hnm CH[i].el hel1 hel2;have hx:=hexp CH[i].text [.var 74 [.int .i64 x.unit,.int .i64 x.par,.int .i64 x.level,.str x.mark,.str x.title,.ag x.fn x.fz FA],.var 58 [.int .i64 0,.str [],.ax 3 0],.sl ⟨false,some 129,none⟩ 3 [],.var 137 [.str [],.str [102,111,110,100,115],.str [115,101,114,105,101,115],.str [102,105,108,101],.str [105,116,101,109]],.sl ⟨false,some 129,none⟩ 3 (N.map dO),.var 58 [.int .i64 x.unit,.str num,.ax 5 N.length],.sl ⟨false,some 129,none⟩ 3 [.agg [.int .i64 ((cy num:Int)+1),.str [109,97,114,107],.str x.mark]],.dead,.var 76 [.int .i64 CH[i].el,.str CH[i].lang,.str CH[i].text]] ht (by simp [shut,ar,AV.under,cL]);rw [aaB h1,aaM] at hi⊢;have hFN:FN CH[i]=⟨(cy num:Int)+1, [112],gz order c.aD CH[i].el (gd Lib.itoa CH[i].el)++58::32::bV (eZ c.ao) CH[i].text⟩:=by rw [<-hFNd];simp [yL]
   have hNd:FN CH[i]::(CH.drop (i+1)).map FN= [FN CH[i]]++(CH.drop (i+1)).map FN:=rfl;have hNm:(N.map dO).length=N.length:=by simp
   have hxtl:=uq hcl CH[i].text;have hnml:=hnb CH[i].el hel1 hel2;generalize CH[i]=f at*
   generalize gz order c.aD f.el (gd Lib.itoa f.el)=nm at*
   generalize bV (eZ c.ao) f.text=xt at*
   clear hCHm hexp hnm hs1 hi hsecN hlev hb hcl hft hch hNF hnb;simp (maxSteps:=9^9) (disch:=omega) [-aaO,-aaP,-aaE,-getElem?_pos,-getElem?_neg,om,h1,hg,ab,hn,hx,hw,hNm];refine ⟨i+1,N++ [FN f],⟨by simp,by omega,by simp;omega⟩,by omega,?_⟩;exact ⟨by omega,by simp [dO,hFN],by simp⟩
  ·rw [aaC (by omega),aaN,aa3] at hi⊢;simp (maxSteps:=9^9) (disch:=omega) [-aaO,-aaP,-aaE,-getElem?_pos,-getElem?_neg,om,h1,ab]
end Go.Proofs.YtfgbpngakkhdcaaGreatDoor
