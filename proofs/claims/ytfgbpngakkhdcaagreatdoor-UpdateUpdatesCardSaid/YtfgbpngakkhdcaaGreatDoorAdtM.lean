/- Chosen facts, labels, citations, by a preference. -/
import Derived.Test.YtfgbpngakkhdcaaGreatDoorAdM
open Bool renaming false->Z,false_eq_true->ο
open Go.Am.AV renaming agg->τ,ah->μ,int->P,ptr->ζ,str->M
open Go.Am.af renaming sl->χ,var->δ
open Go.IntKind renaming i64->Q
open Go.Lib renaming indexByte->S,itoa->X
open Int renaming toNat_natCast->η
open List renaming length->Ê,append_assoc->ρ,append_nil->ι,drop_eq_getElem_cons->T,drop_eq_nil_of_le->U,drop_one->υ,getD_eq_getElem?_getD->A,getElem?_eq_getElem->θ,getElem_mem->σ,length_cons->Y,map_cons->ξ,map_nil->π,map_replicate->C,map_set->F,take_left'->κ
open Nat renaming le_refl->ν
open Option renaming none->K,some->O
open _root_ renaming List->γ,Nat->ε,UInt8->φ,getElem?_neg->I,getElem?_pos->G,if_neg->V,if_pos->W
set_option linter.all false
namespace Go.Proofs.YtfgbpngakkhdcaaGreatDoor
open Go.Am
set_option maxRecDepth 10000
set_option maxHeartbeats 4000000
theorem xy (order:γ ae) (cur f:Fc) (r:γ Fc):fo order cur (f::r)=if cur.el≠f.el then cur::fo order f r else if rk order f.lang<rk order cur.lang then fo order f r else fo order cur r:=by rw [fo]
theorem xz (nl:Option Bool) (z:ε) (l:γ Fc) (hz:l≠ []->z=3) (hl:Ê l<1000000) (on:Option Bool) (order:γ ae) (ho:order.length<1000000):
  ar cfg 94 [μ nl z (l.map dQ),μ on 1 (au order)] []=O (μ K 3 ((ay order l).map dQ), []):=by
 refine aa adq Yt ?_;have ğ:=bW dQ l;have hE:=PB l;have hI:=fun w=>mA on 1 order (fun _=>rfl) ho w;simp only [IQ] at hI;generalize l.map dQ=E at*
 simp (maxSteps:=9^9) (disch:=omega) [-C,-F,-A,-G,-I,om,Yu,ğ];refine Wp.az (fun (a:ε×γ Fc)=>Ê l-a.1) (fun a=> [K,O (μ on 1 (au order)),K,O (.aC 0 a.2.length),K,K,O (μ nl z E),O (P Q (Ê l)),O (P Q a.1),K,K,K,K,K,K,K,K]) (fun a=> [χ ⟨Z,O 76,K⟩ 3 (a.2.map dQ)]) (fun a=>a.1<=Ê l/\a.2.length<=a.1/\((a.1=0/\a.2= [])\/ ∃done cur,a.2=done++ [cur]/\ay order l=done++fo order cur (l.drop a.1))) ?_ (0, []) ⟨by simp,by simp,.inl ⟨rfl,rfl⟩⟩ (by simp) rfl;rintro ⟨i,out⟩ ⟨Ā,ą,hx⟩;simp only at Ā ą hx⊢;by_cases h1:i<Ê l
 ·have hg:=hE i h1;obtain rfl:=hz (ne_of_lt h1);have hd:=T h1;rcases hx with ⟨rfl,rfl⟩ | ⟨done,cur,rfl,hx⟩
  ·have h0:ay order l= []++fo order l[0] (l.drop 1):=by
    cases l with
    | nil=>simp at h1
    | cons f r=>rfl
   clear hE hz;generalize l[0]=x at*
   simp (maxSteps:=9^9) (disch:=omega) [-C,-F,-A,-G,-I,om,h1,hg,ab];exact ⟨1, [x],⟨by omega,by simp,.inr ⟨[],x,rfl,h0⟩⟩,by omega,⟨rfl,rfl⟩,rfl⟩
  ·rw [hd] at hx;rw [xy] at hx;have Ġ:=hI l[i].lang;have ġ:=hI cur.lang;have Č:0<i:=by have:(done++ [cur]).length<=i:=ą;simp at this;omega
   clear hE hz hI;generalize l[i]=x at*
   have đ:((done++ [cur]).map dQ)[Ê done]?=O (τ [P Q cur.el,M cur.lang,M cur.text]):=by simp [dQ]
   have Ģ:(done++ [cur]).length=Ê done+1:=by simp
   have Ē:((done++ [cur]).map dQ).length=Ê done+1:=by simp
   have ģ:((done++ [cur]).map dQ).set (Ê done) (τ [P Q x.el,M x.lang,M x.text])=(done++ [x]).map dQ:=by simp [dQ,List.set_append]
   have į:((Ê done:Int)+1-1).toNat=Ê done:=by omega
   have Ĥ:(done++ [cur]).map dQ++ [τ [P Q x.el,M x.lang,M x.text]]=(done++ [cur]++ [x]).map dQ:=by simp [dQ]
   have hn0: ¬ ((Ê done:Int)+1=0):=by omega
   rw [Ģ];generalize ļ:(done++ [cur]).map dQ=OA at*
   simp (maxSteps:=9^9) (disch:=omega) [-C,-F,-A,-G,-I,om,h1,hg,ab,Ġ,ġ,đ,Ē,ģ,į,Ĥ,hn0];by_cases e1:cur.el=x.el
   ·rw [W e1];rw [V (fun h=>h e1)] at hx;by_cases e2:rk order x.lang<rk order cur.lang
    ·rw [W e2];rw [W e2] at hx;exact ⟨i+1,done++ [x],⟨by omega,by simp at ą⊢;omega,.inr ⟨done,x,rfl,hx⟩⟩,by omega,⟨by simp,by simp⟩,by simp⟩
    ·rw [V e2];rw [V e2] at hx;exact ⟨i+1,done++ [cur],⟨by omega,by simp at ą⊢;omega,.inr ⟨done,cur,rfl,hx⟩⟩,by omega,⟨by simp,by simp⟩,ļ.symm⟩
   ·rw [V e1];rw [W e1] at hx;exact ⟨i+1,done++ [cur]++ [x],⟨by omega,by simp at ą⊢;omega,.inr ⟨done++ [cur],x,rfl,by rw [hx];simp⟩⟩,by omega,⟨by simp,by simp⟩,by simp⟩
 ·have ġ:i=Ê l:=by omega
  subst ġ
  have ē:ay order l=out:=by
   rcases hx with ⟨h0,rfl⟩ | ⟨done,cur,rfl,hx⟩
   ·rw [List.length_eq_zero_iff.1 h0];rfl
   ·rw [hx,List.drop_length];rfl
  rw [ē];simp (maxSteps:=9^9) (disch:=omega) [-C,-F,-A,-G,-I,om,h1]
theorem DR (order:γ ae) (el:Int) (t:ae) (b:Int) (l:Lb) (r:γ Lb):gu order el t b (l::r)=if l.el=el/\rk order l.lang<b then gu order el l.text (rk order l.lang) r else gu order el t b r:=by rw [gu]
theorem DS (c:Ct) (hc:c.ok) (el:Int) (h0: -9223372036854775808<=el) (h9:el<=9223372036854775807) (on:Option Bool) (order:γ ae) (ho:order.length<1000000):
  ar cfg 98 [br c,P Q el,μ on 1 (au order)] []=O (M (fZ order c.av el (cX X el)), []):=by
 refine aa adr Yv ?_;have ċ:=hc.bl;have İ:=hc.bz;have Ā:=Lib.itoa_length_le el h0 h9;have hI:=fun w=>mA on 1 order (fun _=>rfl) ho w;simp only [IQ] at hI;unfold fZ cX br dm;obtain ⟨d,hd⟩: ∃d,d= [101,108,101,109,101,110,116,32]++X el:=⟨_,rfl⟩;have Ľ:101::108::101::109::101::110::116::32::X el=d:=by rw [hd];rfl
 rw [<-hd];generalize c.ai.map bw=A3 at*
 generalize au c.ad=A1 at*
 generalize c.av=B at*
 generalize c.bz=bz at*
 have ā:=bW dc B;have hE:=gE0 B;generalize B.map dc=E at*
 have ą:(au order).length=order.length:=ke order;simp (maxSteps:=9^9) (disch:=omega) [-C,-F,-A,-G,-I,om,Yw,oL,h0,h9,ā,ą,Ľ];refine Wp.az (fun (a:ε×ae×Int)=>Ê B-a.1) (fun a=> [K,O (P Q el),O (μ on 1 (au order)),K,K,O (M a.2.1),O (P Q a.2.2),K,K,K,O (μ c.bn bz E),O (P Q (Ê B)),O (P Q a.1),K,K,K,K]) (fun _=> [δ 26 [μ c.ln c.lz A1,μ c.bn bz E,μ c.sn c.sz A3]]) (fun a=>a.1<=Ê B/\gu order el d order.length B=gu order el a.2.1 a.2.2 (B.drop a.1)) ?_ (0,d,order.length) ⟨by simp,by simp⟩ (by simp) rfl;rintro ⟨i,t,b⟩ ⟨Ā,hx⟩;simp only at Ā hx⊢;rw [hx];clear hx;by_cases h1:i<Ê B
 ·have hg:=hE i h1;obtain rfl:bz=4:=İ (ne_of_lt h1);have Ġ:=hI B[i].lang;rw [T h1,DR];clear hE İ hI;generalize B[i]=x at*
  simp (maxSteps:=9^9) (disch:=omega) [-C,-F,-A,-G,-I,om,h1,hg,ab,Ġ];by_cases e1:x.el=el/\rk order x.lang<b
  ·rw [W e1];exact ⟨i+1,_,_,⟨by omega,rfl⟩,by omega,rfl,rfl,by simp⟩
  ·rw [V e1];exact ⟨i+1,t,b,⟨by omega,by rw [V e1]⟩,by omega,rfl,rfl,by simp⟩
 ·rw [U (by omega)];simp (maxSteps:=9^9) (disch:=omega) [-C,-F,-A,-G,-I,om,h1,gu]
theorem DT (c:Ct) (hc:c.ok) (u:Int) (hb: ∀s∈c.ai,s.mark.length<1000000/\s.title.length<1000000):ar cfg 97 [br c,P Q u] []=O (M (cY c.ai u), []):=by
 refine aa ads Yx ?_;have hf:=wX c.sn c.sz c.ai hc.sz hc.sl u;have hz:=hc.sz;unfold cY br dm;cases hi:aL c.ai u with
 | none=>
  rw [hi] at hf;simp only [aJ] at hf;have Ĝ:=c6 c.ai;generalize c.ai.map bw=E at*
  simp (maxSteps:=9^9) (disch:=omega) [-C,-F,-A,-G,-I,om,PW,hf,Ĝ]
 | some i=>
  rw [hi] at hf;simp only [aJ] at hf;have Ā:=cN hi;have hx:c.ai[i]?=O c.ai[i]:=θ Ā;have hg:=gQ c.ai Ā;obtain ⟨hb1,hb2⟩:=hb _ (σ Ā);have ľ:=hz (ne_of_lt Ā);have Ĝ:=c6 c.ai;have ā:=bW bw c.ai;rw [ľ] at hf⊢;simp only [hx];generalize c.ai.map bw=E at*
  generalize c.ai[i]=x at*
  have Ĕ:(i:Int)<(c.ai.length:Int):=by omega
  by_cases hm:x.mark= []
  ·rw [W hm];simp (maxSteps:=9^9) (disch:=omega) [-C,-F,-A,-G,-I,om,PW,hf,Ĝ,hg,ā,Ĕ,ab,hm]
  ·rw [V hm];have Ł:(x.mark== [])=false:=by simpa using hm
   simp (maxSteps:=9^9) (disch:=omega) [-C,-F,-A,-G,-I,om,PW,hf,Ĝ,hg,ā,Ĕ,ab,hm,Ł]
theorem GX (a b:γ ae) (k:ε):ab (au a) k (au b)=au (a.take k++b++a.drop (k+Ê b)):=by simp [ab,au]
theorem uz (c:Ct) (hc:c.ok) (s:ae) (hs:cD c.ad s=true):ar cfg 49 [br c,M s] []=O (μ K 1 (au (aF c.ad s)), []):=by
 refine aa adt Yy ?_;have hl:=hc.ll;obtain ⟨i,hi⟩:=oM hs;have Ā:=IZ hi;have ĕ:=mA K 1 c.ad (fun _=>rfl) hl s;rw [GQ,hi] at ĕ;obtain hz:c.lz=1:=hc.lz (ne_of_lt Ā);unfold aF br dm;rw [hi,hz];simp only [Nat.zero_add] at ĕ⊢;clear hi hs;generalize c.ad=L at*
 generalize c.ai.map bw=A3 at*
 generalize c.av.map dc=A2 at*
 have ğ:(au L).length=Ê L:=ke L;have ł: ∀k,(au L).take k=au (L.take k):=fun k=>by simp [au]
 have Ń:L.take (Ê L)=L:=List.take_length
 have ń:ab (List.replicate (Ê L) (AV.str [])) 0 (au L)=au L:=by simp [ab]
 have Č:0<Ê L:=by omega
 by_cases h1:Ê L=1
 ·obtain rfl:i=0:=by omega
  obtain ⟨x,rfl⟩:=List.length_eq_one_iff.1 h1;simp only [au,ξ,π] at ĕ;simp (maxSteps:=9^9) (disch:=omega) [-C,-F,-A,-G,-I,om,TV,ĕ,ab,au]
 ·have h2:(L.take i).length=i:=by simp;omega
  have h3:(au (L.take i)).take (Ê L-1)=au (L.take i):=List.take_of_length_le (by rw [ke];omega);have h4:=GX L (L.take i) 1;rw [h2,ρ] at h4
  have h5:(au (L.take 1++(L.take i++L.drop (1+i)))).set 0 (M s)=au (s::(L.take i++L.drop (i+1))):=by
   match L,Č with
   | x::r,_=>simp [au,Nat.add_comm]
  have h6: ¬ (1:ε)=Ê L:=fun h=>h1 h.symm;have h7:(L.take 1++(L.take i++L.drop (1+i))).length=Ê L:=by simp;omega
  have h8:(au (L.take 1++(L.take i++L.drop (1+i))))[0]?=O (M ((L.take 1++(L.take i++L.drop (1+i))).getD 0 [])):=my _ (by rw [h7];exact Č);simp (maxSteps:=9^9) (disch:=omega) [-C,-F,-A,-G,-I,om,TV,ĕ,ğ,ł,Ń,ń,h1,h3,h4,h5,h6,h7,h8,Ā]
  try rfl
def lS (m acc:ε):ae->ε×ε
 | []=>(acc,0)
 | c::r=>if 48<=c.toNat/\c.toNat<=57 then (if m<acc*10+(c.toNat-48) then (m,1) else lS m (acc*10+(c.toNat-48)) r) else (0,2)
def PX (n:ε):AV:=if n=0 then .il Z else .mG 249 Q n
theorem mI (m acc:ε) (c:φ) (r:ae):lS m acc (c::r)=if 48<=c.toNat/\c.toNat<=57 then (if m<acc*10+(c.toNat-48) then (m,1) else lS m (acc*10+(c.toNat-48)) r) else (0,2):=rfl
theorem Ah (m:ε): ∀(s:ae) (acc:ε),(lS m acc s).2=0\/(lS m acc s).2=1\/(lS m acc s).2=2
 | [],_=> .inl rfl
 | c::r,acc=>by
  rw [mI];split
  ·split
   ·exact .inr (.inl rfl)
   ·exact Ah m r _
  ·exact .inr (.inr rfl)
theorem Cf (m:ε): ∀(s:ae) (acc:ε),acc<=m->(lS m acc s).1<=m
 | [],_,h=>h
 | c::r,acc,h=>by
  rw [mI];split
  ·split
   ·exact ν _
   ·exact Cf m r _ (by omega)
  ·exact Nat.zero_le _
theorem DU (s:ae) {i:ε} (h:i<Ê s):s.drop i=s.getD i 0::s.drop (i+1):=by rw [T h];simp [A,h]
theorem Kh (s:ae) (c:φ):Cg [M s,aq c]=O (P Q (S s c)):=by simp [Cg,aq]
theorem sK (s:ae) (c:φ):ar cfg 164 [M s,aq c] []=O (P Q (S s c), []):=by
 have h1:ar cfg 195 [M s,aq c] []=O (P Q (S s c), []):=by refine aa Yz TW ?_;simp (maxSteps:=9^9) (disch:=omega) [-C,-F,-A,-G,-I,om,Sg,Kh]
 refine aa YA TX ?_;simp (maxSteps:=9^9) (disch:=omega) [-C,-F,-A,-G,-I,om,Si,h1]
theorem Mq (c:φ): ∃z:Int,ar cfg 225 [aq c] []=O (P .u8 z, []):=by apply Exists.intro;refine aa YB TY ?_;simp (maxSteps:=9^9) (disch:=omega) [-C,-F,-A,-G,-I,om,Sj,aq];exact rfl
theorem GY (m:ε) (bits:Int) (hm:m=1099511627775/\bits=40\/m=65535/\bits=16) (c0:φ) (s0:ae) (hl:Ê s0<1000000):
  ar cfg 196 [M (c0::s0),P Q 10,P Q bits] []=O (.aK [P .u64 (lS m 0 (c0::s0)).1,PX (lS m 0 (c0::s0)).2], []):=by
 refine aa Sk Mr ?_;have hb:0<bits/\bits<64:=by omega
 have hsl:(c0::s0).length<1000001:=by simp;omega
 have hne:c0::s0≠ []:=by simp
 generalize c0::s0=s at*
 have hml:=bW aq s;obtain ⟨⟨v,k⟩,ı⟩: ∃vk:ε×ε,vk=lS m 0 s:=⟨_,rfl⟩;rw [<-ı]
 have hz:(IntKind.u64.wrap (2^min (IntKind.u64.wrap bits).toNat IntKind.u64.bits)-1)=m/\ ¬ IntKind.u64.wrap bits<0/\m<1099511627776:=by rcases hm with ⟨rfl,rfl⟩ | ⟨rfl,rfl⟩ <;> decide
 obtain ⟨z1,z2,z3⟩:=hz;clear hm
 have hw:IntKind.u64.wrap (m:Int)=m:=by show (m:Int)%18446744073709551616=_;omega
 simp (maxSteps:=9^9) (disch:=omega) [-C,-F,-A,-G,-I,om,Ms,hne,hb.1,hb.2,z1,z2,aD.descOf,hw]
 have Ĵ: ∀{i:ε},i<Ê s->(s.map aq)[i]?=O (P .u8 ((s.getD i 0).toNat:Int)):=fun {i} h=>by
  rw [List.getElem?_map,θ h];simp [A,h,aq]
 refine Wp.az (fun (a:ε×ε)=>Ê s-a.1) (fun a=> [K,O (P Q 10),K,K,K,O (.bool Z),O (M s),O (P .u64 1844674407370955162),O (P .u64 m),O (.bool Z),O (P .u64 a.2),K,K,K,K,K,K,K,K,K,K,K,K,K,K,K,K,K,K,K,K,K,O (.aC 1 (Ê s)),O (P Q (Ê s)),O (P Q a.1),K,K,K,K,K,K,K,K,K,K,K,K,K,K,K,K,K]) (fun _=> [.dead,χ ⟨Z,O 5,K⟩ 1 (s.map aq)]) (fun a=>(v,k)=lS m a.2 (s.drop a.1)/\a.1<=Ê s/\a.2<=m) ?_ (0,0) ⟨ı,by simp,by simp⟩ (by simp) rfl;rintro ⟨i,acc⟩ ⟨hi,Ā,Ņ⟩;simp only at hi Ā Ņ⊢;by_cases h1:i<Ê s
 ·have hg:=Ĵ h1;rw [DU s h1,mI] at hi;generalize s.getD i 0=c at*
  clear Ĵ;obtain ⟨z,hz⟩:=Mq c;simp only [aq] at hz;have w8:IntKind.u8.wrap 10=10:=rfl;have DH:IntKind.u64.wrap 10=10:=rfl;by_cases f1:48<=c.toNat/\c.toNat<=57
  ·rw [W f1] at hi
   have d1:IntKind.u8.wrap ((c.toNat:Int)-48)=((c.toNat-48:ε):Int):=by show ((c.toNat:Int)-48)%256=_;omega
   have d2: ∀n:ε,n<18446744073709551616->IntKind.u64.wrap (n:Int)=n:=fun n hn=>by
    show (n:Int)%18446744073709551616=_;omega
   have d3:(acc:Int)*10=((acc*10:ε):Int):=by omega
   have d4:IntKind.u64.wrap ((acc:Int)*10)=((acc*10:ε):Int):=by rw [d3,d2 _ (by omega)]
   have d5:IntKind.u64.wrap ((c.toNat-48:ε):Int)=((c.toNat-48:ε):Int):=d2 _ (by omega);have d6:IntKind.u64.wrap (((acc*10:ε):Int)+((c.toNat-48:ε):Int))=((acc*10+(c.toNat-48):ε):Int):=by rw [<-Int.natCast_add,d2 _ (by omega)]
   clear d2;generalize į:acc*10=n1 at*
   generalize hn2:c.toNat-48=n2 at*
   obtain ⟨ĵ,Ķ⟩:=f1;by_cases f2:m<n1+n2
   ·rw [W f2] at hi;obtain ⟨rfl,rfl⟩:=Prod.mk.inj hi;simp (maxSteps:=9^9) (disch:=omega) [-C,-F,-A,-G,-I,om,h1,hg,ab,ĵ,Ķ,w8,DH,d1,d4,d5,d6,PX]
   ·rw [V f2] at hi;simp (maxSteps:=9^9) (disch:=omega) [-C,-F,-A,-G,-I,om,h1,hg,ab,ĵ,Ķ,w8,DH,d1,d4,d5,d6];refine ⟨i+1,n1+n2,⟨hi,by omega,by omega⟩,by omega,?_⟩;exact ⟨by omega,by omega⟩
  ·rw [V f1] at hi;obtain ⟨rfl,rfl⟩:=Prod.mk.inj hi;by_cases f3:97<=z
   ·by_cases f4:z<=122
    ·have d7:IntKind.u8.wrap (IntKind.u8.wrap (z-97)+10)=z-87:=by show ((z-97)%256+10)%256=_;omega
     simp (maxSteps:=9^9) (disch:=omega) [-C,-F,-A,-G,-I,om,h1,hg,ab,hz,w8,DH,f1,f3,f4,d7,PX];intro;omega
    ·simp (maxSteps:=9^9) (disch:=omega) [-C,-F,-A,-G,-I,om,h1,hg,ab,hz,w8,DH,f1,f3,f4,PX];intro;omega
   ·simp (maxSteps:=9^9) (disch:=omega) [-C,-F,-A,-G,-I,om,h1,hg,ab,hz,w8,DH,f1,f3,PX];intro;omega
 ·rw [U (by omega)] at hi;obtain ⟨rfl,rfl⟩:=Prod.mk.inj hi;simp (maxSteps:=9^9) (disch:=omega) [-C,-F,-A,-G,-I,om,h1,PX]
def YC (m:ε) (s:ae):AV:=if s= [] then .aK [P .u64 0,.il true] else .aK [P .u64 (lS m 0 s).1,.il (decide ((lS m 0 s).2≠0))]
theorem DV (m:ε) (bits:Int) (hm:m=1099511627775/\bits=40\/m=65535/\bits=16) (s:ae) (hl:Ê s<1000000):
  ar cfg 165 [M s,P Q 10,P Q bits] []=O (YC m s, []):=by
 refine aa YD TZ ?_;cases s with
 | nil=>
  have h0:ar cfg 196 [M [],P Q 10,P Q bits] []=O (.aK [P .u64 0,.mG 249 Q 2], []):=by refine aa Sk Mr ?_;simp (maxSteps:=9^9) (disch:=omega) [-C,-F,-A,-G,-I,om,Ms]
  simp (maxSteps:=9^9) (disch:=omega) [-C,-F,-A,-G,-I,om,DW,h0,oN,YC]
 | cons c0 s0=>
  have hin:=GY m bits hm c0 s0 (by simp at hl;omega);have hne:c0::s0≠ []:=by simp
  have ņ:=Ah m (c0::s0) 0;generalize c0::s0=s at*
  clear hm;unfold YC;rw [V hne];generalize (lS m 0 s).1=v at*
  generalize (lS m 0 s).2=k at*
  rcases ņ with rfl | rfl | rfl
  ·simp (maxSteps:=9^9) (disch:=omega) [-C,-F,-A,-G,-I,om,DW,hin,PX]
  ·simp (maxSteps:=9^9) (disch:=omega) [-C,-F,-A,-G,-I,om,DW,hin,PX,oN]
  ·simp (maxSteps:=9^9) (disch:=omega) [-C,-F,-A,-G,-I,om,DW,hin,PX,oN]
theorem Ai: ∀(s:ae) (acc:ε),sL acc s=if (lS 1099511627775 acc s).2=0 then O (lS 1099511627775 acc s).1 else K
 | [],acc=>rfl
 | c::r,acc=>by
  rw [mI];unfold sL;by_cases h1:48<=c.toNat/\c.toNat<=57
  ·rw [W h1,W h1];by_cases h2:1099511627775<acc*10+(c.toNat-48)
   ·rw [W h2,W h2];rfl
   ·rw [V h2,V h2,Ai r]
  ·rw [V h1,V h1];rfl
theorem Aj: ∀(s:ae) (acc:ε),wM acc s=if (lS 65535 acc s).2=0 then O (lS 65535 acc s).1 else K
 | [],acc=>rfl
 | c::r,acc=>by
  rw [mI];unfold wM;by_cases h1:48<=c.toNat/\c.toNat<=57
  ·rw [W h1,W h1];by_cases h2:65535<acc*10+(c.toNat-48)
   ·rw [W h2,W h2];rfl
   ·rw [V h2,V h2,Aj r]
  ·rw [V h1,V h1];rfl
theorem xA (s:ae) (hl:Ê s<1000000): ∃(v:ε) (b:Bool),ar cfg 165 [M s,P Q 10,P Q 40] []=O (.aK [P .u64 v,.il b], [])/\wY s=(if b then K else O v)/\v<=1099511627775:=by
 have h:=DV 1099511627775 40 (.inl ⟨rfl,rfl⟩) s hl;unfold YC at h;unfold wY;by_cases h0:s= []
 ·rw [W h0] at h⊢;exact ⟨0,true,h,rfl,by omega⟩
 ·rw [V h0] at h⊢;refine ⟨_,_,h,?_,Cf 1099511627775 s 0 (by omega)⟩;rw [Ai];by_cases hk:(lS 1099511627775 0 s).2=0
  ·simp [hk]
  ·simp [hk]
theorem xB (s:ae) (hl:Ê s<1000000): ∃(v:ε) (b:Bool),ar cfg 165 [M s,P Q 10,P Q 16] []=O (.aK [P .u64 v,.il b], [])/\lj s=(if b then K else O v)/\v<=65535:=by
 have h:=DV 65535 16 (.inr ⟨rfl,rfl⟩) s hl;unfold YC at h;unfold lj;by_cases h0:s= []
 ·rw [W h0] at h⊢;exact ⟨0,true,h,rfl,by omega⟩
 ·rw [V h0] at h⊢;refine ⟨_,_,h,?_,Cf 65535 s 0 (by omega)⟩;rw [Aj];by_cases hk:(lS 65535 0 s).2=0
  ·simp [hk]
  ·simp [hk]
def qI (p:Int×Int):AV:= .aK [P Q p.1,P Q p.2]
theorem nv: ∀(s:ae) (c:φ),-1<=S s c/\(S s c<Ê s)
 | [],c=>by simp [S]
 | b::l,c=>by
  have ih:=nv l c;rw [S];split
  ·simp only [Y];omega
  ·split
   ·simp only [Y];omega
   ·simp only [Y];omega
theorem I0 (s:ae):ar cfg 146 [M s] []=O (qI (rD s), []):=by
 refine aa YE T4 ?_;have hi:ar cfg 164 [M s,P .u8 93] []=O (P Q (S s 93), []):=sK s 93;have hb:=nv s 93;have č: ∀{j:ε},j<Ê s->s[j]?=O (s.getD j 0):=fun {j} h=>by simp [A,h]
 unfold rD;generalize S s 93=n at*
 by_cases h1:n<2\/11<n
 ·have e:(n<2\/11<n\/s.getD 1 0=48):=by omega
  rw [W e];rcases h1 with h1 | h1
  ·simp (maxSteps:=9^9) (disch:=omega) [-C,-F,-A,-G,-I,om,xC,hi,h1,qI]
  ·simp (maxSteps:=9^9) (disch:=omega) [-C,-F,-A,-G,-I,om,xC,hi,h1,qI]
 ·obtain ⟨n,rfl⟩: ∃k:ε,n=k:=⟨n.toNat,by omega⟩;have g1:=č (j:=1) (by omega);have hn:2<=n/\n<=11:=by omega
  have ķ:n<Ê s:=by omega
  clear č h1 hb;rw [η];obtain ⟨v,b,hp,ĥ,hv⟩:=xA ((s.take n).drop 1) (by simp;omega);generalize s.getD 1 0=c at*
  rw [ĥ];have hw:(v:Int)%18446744073709551616=v:=by omega
  rw [υ] at hp;by_cases hc:c=48
  ·subst hc;rw [W (.inr (.inr rfl))];simp (maxSteps:=9^9) (disch:=omega) [-C,-F,-A,-G,-I,om,xC,hi,hn.1,hn.2,g1,aq,qI]
  ·have Ć: ¬ ((c.toNat:Int)=48):=fun h=>hc (UInt8.toNat_inj.mp (by simp;omega));rw [V (fun h=>by rcases h with h | h | h;omega;omega;exact hc h)];cases b with
   | true=>simp (maxSteps:=9^9) (disch:=omega) [-C,-F,-A,-G,-I,om,xC,hi,hn.1,hn.2,g1,aq,qI,hp,Ć]
   | false=>
    simp only [ο,if_false];by_cases Ė:1073741824<v
    ·simp (maxSteps:=9^9) (disch:=omega) [-C,-F,-A,-G,-I,om,xC,hi,hn.1,hn.2,g1,aq,qI,hp,Ć,Ė]
    ·simp (maxSteps:=9^9) (disch:=omega) [-C,-F,-A,-G,-I,om,xC,hi,hn.1,hn.2,g1,aq,qI,hp,Ć,Ė]
theorem DX (s:ae) (Ň:s≠ []):ar cfg 113 [M s] []=O (qI (Ch s), []):=by
 refine aa YF T5 ?_;have hi:ar cfg 164 [M s,P .u8 93] []=O (P Q (S s 93), []):=sK s 93;have hb:=nv s 93;have č: ∀{j:ε},j<Ê s->s[j]?=O (s.getD j 0):=fun {j} h=>by simp [A,h]
 have ň:0<Ê s:=List.length_pos_iff.mpr Ň;have g0:=č (j:=0) ň;unfold Ch;generalize hc0:s.getD 0 0=c0 at*
 by_cases h91:c0=91
 case neg=>
  have Ŋ: ¬ ((c0.toNat:Int)=91):=fun h=>h91 (UInt8.toNat_inj.mp (by simp;omega));rw [W h91];clear č hi;simp (maxSteps:=9^9) (disch:=omega) [-C,-F,-A,-G,-I,om,vA,g0,aq,qI,Ŋ]
 rw [V (by simp [h91])];subst h91;unfold rD;generalize S s 93=n at*
 by_cases h1:n<2\/11<n
 ·have e:(n<2\/11<n\/s.getD 1 0=48):=by omega
  rw [W e];rcases h1 with h1 | h1
  ·simp (maxSteps:=9^9) (disch:=omega) [-C,-F,-A,-G,-I,om,vA,hi,h1,qI,g0,aq]
  ·simp (maxSteps:=9^9) (disch:=omega) [-C,-F,-A,-G,-I,om,vA,hi,h1,qI,g0,aq]
 ·obtain ⟨n,rfl⟩: ∃k:ε,n=k:=⟨n.toNat,by omega⟩;have g1:=č (j:=1) (by omega);have hn:2<=n/\n<=11:=by omega
  have ķ:n<Ê s:=by omega
  clear č h1 hb;rw [η];obtain ⟨v,b,hp,ĥ,hv⟩:=xA ((s.take n).drop 1) (by simp;omega);generalize s.getD 1 0=c at*
  rw [ĥ];have hw:(v:Int)%18446744073709551616=v:=by omega
  rw [υ] at hp;by_cases hc:c=48
  ·subst hc;rw [W (.inr (.inr rfl))];simp (maxSteps:=9^9) (disch:=omega) [-C,-F,-A,-G,-I,om,vA,hi,hn.1,hn.2,g0,g1,aq,qI]
  ·have Ć: ¬ ((c.toNat:Int)=48):=fun h=>hc (UInt8.toNat_inj.mp (by simp;omega));rw [V (fun h=>by rcases h with h | h | h;omega;omega;exact hc h)];cases b with
   | true=>simp (maxSteps:=9^9) (disch:=omega) [-C,-F,-A,-G,-I,om,vA,hi,hn.1,hn.2,g0,g1,aq,qI,hp,Ć]
   | false=>
    simp only [ο,if_false];by_cases Ė:1073741824<v
    ·simp (maxSteps:=9^9) (disch:=omega) [-C,-F,-A,-G,-I,om,vA,hi,hn.1,hn.2,g0,g1,aq,qI,hp,Ć,Ė]
    ·simp (maxSteps:=9^9) (disch:=omega) [-C,-F,-A,-G,-I,om,vA,hi,hn.1,hn.2,g0,g1,aq,qI,hp,Ć,Ė]
def bG (bs:γ af) (a:AV) (s:ae):γ af:=bs++ [δ 178 [a,.aC (Ê bs+1) (Ê s)],χ ⟨Z,O 5,K⟩ 1 (s.map aq)]
theorem iG {bs:γ af} (hs:shut (Ê bs) bs=true) {a:AV} (ha:a= .cn\/a= ζ (Ê bs) 0) (s:ae):TO (bG bs a s) (Ê bs) (Ê bs+1) a s:=by
 unfold bG;refine ⟨?_,?_,by omega,ha,by simp,by simp,?_⟩
 ·rw [Ak];rfl
 ·rw [eN];rfl
 ·rw [eO,jN (by simp) hs];rcases ha with rfl | rfl <;> simp [shut,aA,AV.under]
theorem jY {bs:γ af} {a:AV} {s t:ae}:jw (bG bs a s) (Ê bs) (Ê bs+1) t=bG bs (ζ (Ê bs) 0) t:=by unfold jw bG;rw [xD,dt];rfl
theorem Ki (f:FuncId) (ŋ:DP f) (j:ε) (bs:γ af) (ĸ:shut (Ê bs) bs=true) (hj:j<Ê bs) (nm:Int->ae)
  (hf: ∀u J,ar cfg f [P Q u,ζ j 0] (bs++J)=O (M (nm u),bs++J)) (Đ: ∀u,(nm u).length<=1000) (s:ae) (hs:Ê s<=10000):
  ar cfg 95 [M s,.fn f [] [ζ j 0]] bs=O (M (bI nm s),bs):=by
 refine aa adu YG ?_;obtain ⟨n1,n2,n3,n4⟩:=ŋ;simp only [exts,wL,L5,kg] at n1 n2 n3 n4;have hm:=shut_map (ν _) ĸ;simp (maxSteps:=9^9) (disch:=omega) [-C,-F,-A,-G,-I,om,YH];refine Wp.az (fun (a:ε×ae×AV)=>Ê s-a.1) (fun a=> [O (M s),O (.fn f [] [ζ j 0]),K,O (ζ (Ê bs) 0),O (P Q a.1),K,K,K,K,K,K,K,K]) (fun a=>bG bs a.2.2 a.2.1) (fun a=>bI nm s=a.2.1++bI nm (s.drop a.1)/\a.1<=Ê s/\a.2.1.length<=1000*a.1/\(a.2.2= .cn\/a.2.2= ζ (Ê bs) 0)) ?_ (0, [],.cn) ⟨by simp,by simp,by simp,.inl rfl⟩ (by simp) rfl;rintro ⟨i,out,a⟩ ⟨hi,Ā,ą,ha⟩;simp only at hi Ā ą ha⊢;have ċ:=iG ĸ ha out;have ā: ∀a out,(bG bs a out).length=Ê bs+2:=fun a out=>by simp [bG]
 by_cases h1:i<Ê s
 ·have hg:s[i]?=O (s.getD i 0):=by simp [A,h1]
  have Ď:=sI ċ (s.getD i 0) (by omega);rw [jY] at Ď;have hd:=DU s h1;by_cases hp:(ao (s.drop i)).2=0
  ·have ď:bI nm s=out++ [s.getD i 0]++bI nm (s.drop (i+1)):=by rw [hi,hd,jO nm _ _ (by rw [<-hd];exact hp)];simp
   by_cases hc:s.getD i 0=91
   ·have hu:=I0 (s.drop i);rw [hd,hc,rE,<-hc,<-hd] at hu;unfold qI at hu;rw [hp] at hu;generalize (ao (s.drop i)).1=p1 at*
    rw [hc] at hg Ď ď;replace Ď:ar cfg 148 [ζ (Ê bs) 0,P .u8 91] _=_:=Ď;have ć:=ā a out;have ė:=ā (ζ (Ê bs) 0) (out++ [91]);generalize bG bs a out=B at*
    clear hd hp hc hi hf ċ;simp (maxSteps:=9^9) (disch:=omega) [-C,-F,-A,-G,-I,om,h1,hg,aq,hu,Ď,ć,ė];refine ⟨i+1,out++ [91],ζ (Ê bs) 0,⟨ď,by omega,by simp;omega,.inr rfl⟩,by omega,?_⟩;simp
   ·have Ć: ¬ (((s.getD i 0).toNat:Int)=91):=fun h=>hc (UInt8.toNat_inj.mp (by show _=91;omega));generalize s.getD i 0=c at*
    have ć:=ā a out;have ė:=ā (ζ (Ê bs) 0) (out++ [c]);generalize bG bs a out=B at*
    clear hd hp hc hi hf ċ;simp (maxSteps:=9^9) (disch:=omega) [-C,-F,-A,-G,-I,om,h1,hg,aq,Ď,ć,ė,Ć];refine ⟨i+1,out++ [c],ζ (Ê bs) 0,⟨ď,by omega,by simp;omega,.inr rfl⟩,by omega,?_⟩;simp
  ·obtain ⟨q1,q2,q3,q4,q5⟩:=(c7 (s.drop i)).resolve_left (fun h=>hp (by rw [h]));have hc:s.getD i 0=91:=by rw [hd] at q5;simpa using q5
   have hu:=I0 (s.drop i);rw [hd,hc,rE,<-hc,<-hd] at hu;unfold qI at hu
   have ď:bI nm s=out++nm (ao (s.drop i)).1++bI nm (s.drop (i+(ao (s.drop i)).2.toNat)):=by rw [hi,iU nm _ hp,List.drop_drop,ρ]
   have hw:ar cfg f [P Q (ao (s.drop i)).1,ζ j 0] (bG bs a out)=O (M (nm (ao (s.drop i)).1),bG bs a out):=hf _ _;have hnx:=Đ (ao (s.drop i)).1;have Ĺ:=jb ċ (nm (ao (s.drop i)).1) (by omega) (by omega);rw [jY] at Ĺ;obtain ⟨n,hn⟩: ∃n:ε,(ao (s.drop i)).2=n:=⟨(ao (s.drop i)).2.toNat,by omega⟩;rw [hn] at hu ď q3 q4;rw [η] at ď;have q4':i+n<=Ê s:=by simp at q4;omega
   have Ō:0<n:=by omega
   generalize nm (ao (s.drop i)).1=x at*
   generalize (ao (s.drop i)).1=p1 at*
   rw [hc] at hg;have ć:=ā a out;have ė:=ā (ζ (Ê bs) 0) (out++x);generalize bG bs a out=B at*
   clear hd hp hc hi hf ċ Ď q1 q2 q3 q4 q5 hn;simp (maxSteps:=9^9) (disch:=omega) [-C,-F,-A,-G,-I,om,h1,hg,aq,hu,hw,Ĺ,ć,ė,Ō,n1,n2,n3,n4];refine ⟨i+n,out++x,ζ (Ê bs) 0,⟨ď,by omega,by simp;omega,.inr rfl⟩,by omega,?_⟩;simp
 ·rw [U (by omega),jd,ι] at hi;rw [hi];have ē:(bG bs a out).take (Ê bs)=bs:=by unfold bG;exact κ rfl
  by_cases h0:out= []
  ·subst h0;have hst:=vy ċ;have Ħ:((bG bs a []).set (Ê bs+1) (χ ⟨Z,K,K⟩ 1 [])).take (Ê bs)=bs:=by unfold bG;rw [dt];exact κ rfl
   have ć:=ā a [];generalize bG bs a []=B at*
   simp (maxSteps:=9^9) (disch:=omega) [-C,-F,-A,-G,-I,om,h1,hst,Ħ,hm,ć]
  ·have hst:=rB ċ (by omega) h0;have Ħ:((bG bs a out).set (Ê bs+1) (χ ⟨Z,K,K⟩ 1 (out.map aq))).take (Ê bs)=bs:=by unfold bG;rw [dt];exact κ rfl
   have ć:=ā a out;generalize bG bs a out=B at*
   simp (maxSteps:=9^9) (disch:=omega) [-C,-F,-A,-G,-I,om,h1,hst,Ħ,hm,ć]
theorem vB (s:ae) (h:Ê s<1000000):ar cfg 93 [M s,M [46]] []=O (P Q (aY s), []):=by refine aa YI Sl ?_;simp (maxSteps:=9^9) (disch:=omega) [-C,-F,-A,-G,-I,om,T6,Ci,aY,Lib.countByte]
theorem Mt (c:Ct) (hc:c.ok) (hb: ∀s∈c.ai,s.mark.length<1000000/\s.title.length<1000000) (u:Int) (j:ε) (B:γ af) (hj:af.at B j= δ 26 (dm c)):
  ar cfg 96 [P Q u,ζ j 0] B=O (M (cY c.ai u),B):=by
 refine aa adv YJ ?_;have h:=DT c hc u hb;unfold br dm at h;simp (maxSteps:=9^9) (disch:=omega) [-C,-F,-A,-G,-I,om,YK,hj,h,dm]
def dF (n:Nd):AV:= τ [P Q n.depth,M n.tag,M n.text]
theorem YL (l:γ (Nd)): ∀k (h:k<Ê l),(l.map dF)[k]?=O (τ [P Q l[k].depth,M l[k].tag,M l[k].text]):=fun k h=>get_map _ _ h
def cH (s:mv):AV:= τ [P Q s.unit,M s.num,μ K 3 (s.nodes.map dF)]
theorem gE6 (l:γ (mv)): ∀k (h:k<Ê l),(l.map cH)[k]?=O (τ [P Q l[k].unit,M l[k].num,μ K 3 (l[k].nodes.map dF)]):=fun k h=>get_map _ _ h
theorem uA (order:γ ae): ∀(r:γ Fc) (cur:Fc),(fo order cur r).length<=Ê r+1
 | [],cur=>by simp [fo]
 | f::r,cur=>by
  have h1:=uA order r f;have h2:=uA order r cur;rw [xy];split
  ·simp only [Y];omega
  ·split <;> simp only [Y] <;> omega
theorem gF (order:γ ae): ∀l:γ Fc,(ay order l).length<=Ê l
 | []=>ν _
 | f::r=>uA order r f
theorem oO {nm:Int->ae} (h: ∀u,(nm u).length<=1000): ∀s:ae,(bI nm s).length<=1000*Ê s:=by
 suffices H: ∀(n:ε) (s:ae),Ê s<=n->(bI nm s).length<=1000*Ê s from fun s=>H _ s (ν _)
 intro n
 induction n with
 | zero=>intro s hs;have:s= []:=List.length_eq_zero_iff.mp (by omega);subst this;simp [jd]
 | succ n ih=>
  intro s hs;cases s with
  | nil=>simp [jd]
  | cons c r=>
   by_cases hp:(ao (c::r)).2=0
   ·rw [jO nm _ _ hp];have:=ih r (by simp at hs;omega);simp only [Y];omega
   ·obtain ⟨q1,q2,q3,q4,q5⟩:=(c7 (c::r)).resolve_left (fun h=>hp (by rw [h]));rw [iU nm _ hp];have h1:=h (ao (c::r)).1;have h2:=ih ((c::r).drop (ao (c::r)).2.toNat) (by simp at hs⊢;omega);simp only [List.length_append,List.length_drop] at h2⊢;omega
theorem GZ (c:Ct) (hc:c.ok) (hb: ∀s∈c.ai,s.mark.length<1000000/\s.title.length<1000000) (Ę: ∀u,(cY c.ai u).length<=1000) (x:Sh) (num:ae) (ķ:Ê num<10000) (ħ:x.ok) (hxl:1<=x.level/\x.level<=4)
  (hxt:x.title.length<10000) (on:Option Bool) (order:γ ae) (ho:order.length<1000000) (ĝ: ∀el,-9223372036854775808<=el->el<=9223372036854775807->(fZ order c.av el (cX X el)).length<=10000000) (Ĩ: ∀f∈x.facts,f.text.length<=10000/\ -9223372036854775808<=f.el/\f.el<=9223372036854775807):
  ar cfg 52 [br c,bw x,M num,μ on 1 (au order)] []=O (cH (kZ X order c (x,num)), []):=by
 refine aa adw YM ?_;have ę:=vB num (by omega);have Ğ:=xz x.fn x.fz x.facts ħ.fz ħ.fl on order ho;have ĺ:bw x= τ [P Q x.unit,P Q x.par,P Q x.level,M x.mark,M x.title,μ x.fn x.fz (x.facts.map dQ)]:=rfl
 have Ĉ:([M [],M [102,111,110,100,115],M [115,101,114,105,101,115],M [102,105,108,101],M [105,116,101,109]]:γ AV)[x.level.toNat]?=O (M (ec x.level)):=by
  have:x.level=1\/x.level=2\/x.level=3\/x.level=4:=by omega
  rcases this with h | h | h | h <;> rw [h] <;> rfl
 have Ě:x.level.toNat<5:=by omega
 rw [ĺ];have Ă:(kZ X order c (x,num)).nodes=⟨aY num,ec x.level,num++32::x.title⟩::(oP (aY num+1) x++(ay order x.facts).map (oQ X order c (aY num+1))):=by simp [kZ]
 have ō:cH (kZ X order c (x,num))= τ [P Q x.unit,M num,μ K 3 ((kZ X order c (x,num)).nodes.map dF)]:=rfl;rw [ō,Ă];have ĩ:=fun u B hj=>Mt c hc hb u 0 B hj;have Đ: ∀el,-9223372036854775808<=el->el<=9223372036854775807->ar cfg 98 [br c,P Q el,μ on 1 (au order)] []=O (M (fZ order c.av el (cX X el)), []):=fun el h0 h9=>DS c hc el h0 h9 on order ho;unfold br dm at*
 generalize au c.ad=L1 at*
 generalize c.av.map dc=L2 at*
 generalize c.ai.map bw=L3 at*
 generalize au order=OA at*
 generalize x.facts.map dQ=FA at*
 generalize hCA:(ay order x.facts).map dQ=CA at*
 have Ļ:Ê CA=(ay order x.facts).length:=by rw [<-hCA];simp
 clear ĺ;have hdl:aY num<=Ê num:=List.count_le_length;have hw:IntKind.i64.wrap ((aY num:Int)+1)=aY num+1:=wrap_i64 (by omega) (by omega);have hCHl:(ay order x.facts).length<=1000000:=Nat.le_trans (gF order x.facts) (by have:=ħ.fl;omega)
 have ĉ: ∀i (h:i<(ay order x.facts).length),CA[i]?=O (τ [P Q (ay order x.facts)[i].el,M (ay order x.facts)[i].lang,M (ay order x.facts)[i].text])/\(ay order x.facts)[i].text.length<=10000/\ -9223372036854775808<=(ay order x.facts)[i].el/\(ay order x.facts)[i].el<=9223372036854775807:=fun i h=>by
  obtain ⟨h1,h2,h3⟩:=Ĩ _ (bH (σ h));refine ⟨?_,h1,h2,h3⟩;rw [<-hCA];exact get_map _ _ h
 have Ċ: ∀(t:ae) (R:γ af),Ê t<=10000->shut (Ê R+1) R=true->ar cfg 95 [M t,.fn 96 [] [ζ 0 0]] (δ 26 [μ c.ln c.lz L1,μ c.bn c.bz L2,μ c.sn c.sz L3]::R)=O (M (bI (cY c.ai) t),δ 26 [μ c.ln c.lz L1,μ c.bn c.bz L2,μ c.sn c.sz L3]::R):=fun t R ht hR=>by
  refine Ki 96 ⟨rfl,rfl,rfl,rfl⟩ 0 _ (by simpa [shut,aA,AV.under] using hR) (by simp) (cY c.ai) (fun u J=>ĩ u _ ?_) (fun u=>Ę u) t ht;simp [af.at]
 generalize hCH:ay order x.facts=CH at*
 have hNFl:(dF ⟨aY num,ec x.level,num++32::x.title⟩)= τ [P Q (aY num),M (ec x.level),M (num++32::x.title)]:=rfl;generalize ě:oQ X order c ((aY num:Int)+1)=FN at*
 generalize hNF:(⟨aY num,ec x.level,num++32::x.title⟩::(oP (aY num+1) x++CH.map FN):γ Nd)=NF at*
 by_cases hmk:x.mark= []
 ·rw [hmk];simp (maxSteps:=9^9) (disch:=omega) [-C,-F,-A,-G,-I,om,T7,ę,Ğ,ab,Ĉ,Ě,Ļ]
  refine Wp.az (fun (a:ε×γ Nd)=>Ê CH-a.1) (fun a=> [K,K,K,O (μ on 1 OA),O (ζ 0 0),K,O (ζ 2 0),O (P Q (aY num)),K,O (ζ 6 0),K,K,K,K,K,K,K,K,K,K,K,K,K,O (μ K 3 CA),O (P Q (Ê CH)),O (P Q a.1),K,K,K,K,K,K,K,K,K,K]) (fun a=> [δ 26 [μ c.ln c.lz L1,μ c.bn c.bz L2,μ c.sn c.sz L3],δ 74 [P Q x.unit,P Q x.par,P Q x.level,M [],M x.title,μ x.fn x.fz FA],δ 58 [P Q 0,M [],.aC 3 0],χ ⟨Z,O 129,K⟩ 3 [],δ 137 [M [],M [102,111,110,100,115],M [115,101,114,105,101,115],M [102,105,108,101],M [105,116,101,109]],χ ⟨Z,O 129,K⟩ 3 (a.2.map dF),δ 58 [P Q x.unit,M num,.aC 5 a.2.length]])
   (fun a=>NF=a.2++(CH.drop a.1).map FN/\a.1<=Ê CH/\a.2.length<=a.1+2) ?_ (0, [⟨aY num,ec x.level,num++32::x.title⟩]) ⟨by simp [<-hNF,oP,hmk],by simp,by simp⟩ (by simp) (by simp [dF])
  rintro ⟨i,N⟩ ⟨hi,Ā,Ī⟩;simp only at hi Ā Ī⊢;rw [hi];by_cases h1:i<Ê CH
  ·obtain ⟨hg,ht,ă,Ą⟩:=ĉ i h1;have hn:=Đ CH[i].el ă Ą;have hx:=Ċ CH[i].text [δ 74 [P Q x.unit,P Q x.par,P Q x.level,M [],M x.title,μ x.fn x.fz FA],δ 58 [P Q 0,M [],.aC 3 0],χ ⟨Z,O 129,K⟩ 3 [],δ 137 [M [],M [102,111,110,100,115],M [115,101,114,105,101,115],M [102,105,108,101],M [105,116,101,109]],χ ⟨Z,O 129,K⟩ 3 (N.map dF),δ 58 [P Q x.unit,M num,.aC 5 (Ê N)],δ 76 [P Q CH[i].el,M CH[i].lang,M CH[i].text]] ht (by simp [shut,aA,AV.under,dG]);rw [T h1,ξ] at hi⊢;have ī:FN CH[i]=⟨(aY num:Int)+1, [112],fZ order c.av CH[i].el (cX X CH[i].el)++58::32::bI (cY c.ai) CH[i].text⟩:=by rw [<-ě];simp [oQ]
   have Ŏ:FN CH[i]::(CH.drop (i+1)).map FN= [FN CH[i]]++(CH.drop (i+1)).map FN:=rfl;have Ĭ:=bW dF N;have ĭ:=oO Ę CH[i].text;have Į:=ĝ CH[i].el ă Ą;generalize CH[i]=f at*
   generalize fZ order c.av f.el (cX X f.el)=nm at*
   generalize bI (cY c.ai) f.text=xt at*
   clear ĉ Ċ Đ ĩ hi Ă Ĉ hb Ę Ĩ Ğ hNF ĝ;simp (maxSteps:=9^9) (disch:=omega) [-C,-F,-A,-G,-I,om,h1,hg,ab,hn,hx,hw,Ĭ];refine ⟨i+1,N++ [FN f],⟨by simp,by omega,by simp;omega⟩,by omega,?_⟩;exact ⟨by omega,by simp [dF,ī],by simp⟩
  ·rw [U (by omega),π,ι] at hi⊢;simp (maxSteps:=9^9) (disch:=omega) [-C,-F,-A,-G,-I,om,h1,ab]
 ·simp (maxSteps:=9^9) (disch:=omega) [-C,-F,-A,-G,-I,om,T7,ę,Ğ,ab,Ĉ,Ě,Ļ,hmk,hw]
  refine Wp.az (fun (a:ε×γ Nd)=>Ê CH-a.1) (fun a=> [K,K,K,O (μ on 1 OA),O (ζ 0 0),K,O (ζ 2 0),O (P Q (aY num)),K,O (ζ 6 0),K,K,K,K,K,K,K,K,K,K,K,K,K,O (μ K 3 CA),O (P Q (Ê CH)),O (P Q a.1),K,K,K,K,K,K,K,K,K,K]) (fun a=> [δ 26 [μ c.ln c.lz L1,μ c.bn c.bz L2,μ c.sn c.sz L3],δ 74 [P Q x.unit,P Q x.par,P Q x.level,M x.mark,M x.title,μ x.fn x.fz FA],δ 58 [P Q 0,M [],.aC 3 0],χ ⟨Z,O 129,K⟩ 3 [],δ 137 [M [],M [102,111,110,100,115],M [115,101,114,105,101,115],M [102,105,108,101],M [105,116,101,109]],χ ⟨Z,O 129,K⟩ 3 (a.2.map dF),δ 58 [P Q x.unit,M num,.aC 5 a.2.length],χ ⟨Z,O 129,K⟩ 3 [τ [P Q ((aY num:Int)+1),M [109,97,114,107],M x.mark]],.dead])
   (fun a=>NF=a.2++(CH.drop a.1).map FN/\a.1<=Ê CH/\a.2.length<=a.1+2) ?_ (0, [⟨aY num,ec x.level,num++32::x.title⟩,⟨(aY num:Int)+1, [109,97,114,107],x.mark⟩]) ⟨by simp [<-hNF,oP,hmk],by simp,by simp⟩ (by simp) (by simp [dF])
  rintro ⟨i,N⟩ ⟨hi,Ā,Ī⟩;simp only at hi Ā Ī⊢;rw [hi];by_cases h1:i<Ê CH
  ·obtain ⟨hg,ht,ă,Ą⟩:=ĉ i h1;have hn:=Đ CH[i].el ă Ą;have hx:=Ċ CH[i].text [δ 74 [P Q x.unit,P Q x.par,P Q x.level,M x.mark,M x.title,μ x.fn x.fz FA],δ 58 [P Q 0,M [],.aC 3 0],χ ⟨Z,O 129,K⟩ 3 [],δ 137 [M [],M [102,111,110,100,115],M [115,101,114,105,101,115],M [102,105,108,101],M [105,116,101,109]],χ ⟨Z,O 129,K⟩ 3 (N.map dF),δ 58 [P Q x.unit,M num,.aC 5 (Ê N)],χ ⟨Z,O 129,K⟩ 3 [τ [P Q ((aY num:Int)+1),M [109,97,114,107],M x.mark]],.dead,δ 76 [P Q CH[i].el,M CH[i].lang,M CH[i].text]] ht (by simp [shut,aA,AV.under,dG]);rw [T h1,ξ] at hi⊢;have ī:FN CH[i]=⟨(aY num:Int)+1, [112],fZ order c.av CH[i].el (cX X CH[i].el)++58::32::bI (cY c.ai) CH[i].text⟩:=by rw [<-ě];simp [oQ]
   have Ŏ:FN CH[i]::(CH.drop (i+1)).map FN= [FN CH[i]]++(CH.drop (i+1)).map FN:=rfl;have Ĭ:=bW dF N;have ĭ:=oO Ę CH[i].text;have Į:=ĝ CH[i].el ă Ą;generalize CH[i]=f at*
   generalize fZ order c.av f.el (cX X f.el)=nm at*
   generalize bI (cY c.ai) f.text=xt at*
   clear ĉ Ċ Đ ĩ hi Ă Ĉ hb Ę Ĩ Ğ hNF ĝ;simp (maxSteps:=9^9) (disch:=omega) [-C,-F,-A,-G,-I,om,h1,hg,ab,hn,hx,hw,Ĭ];refine ⟨i+1,N++ [FN f],⟨by simp,by omega,by simp;omega⟩,by omega,?_⟩;exact ⟨by omega,by simp [dF,ī],by simp⟩
  ·rw [U (by omega),π,ι] at hi⊢;simp (maxSteps:=9^9) (disch:=omega) [-C,-F,-A,-G,-I,om,h1,ab]
