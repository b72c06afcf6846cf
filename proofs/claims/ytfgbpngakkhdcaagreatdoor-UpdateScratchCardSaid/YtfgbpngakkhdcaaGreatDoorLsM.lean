/- Stale and Differ, of the program and of the reference; equal reads. -/
import Derived.Test.YtfgbpngakkhdcaaGreatDoorRfM
import Derived.Test.YtfgbpngakkhdcaaGreatDoorLsaM
open Bool renaming and_eq_true->abj,false_or->abE,true_or->adE
open List renaming all_eq_true->abH,drop_eq_getElem_cons->aaB,drop_eq_nil_of_le->aaC,flatMap_cons->abr,getD_eq_getElem?_getD->aaE,length_append->aba,length_cons->aaH,length_map->abp,length_nil->abL,map_replicate->aaO,map_set->aaP,mem_cons->aaQ,mem_cons_of_mem->abO,mem_map->aaS
open Nat renaming le_trans->abd,mul_le_mul_right->acF,succ_mul->adF
set_option linter.all false
namespace Go.Proofs.YtfgbpngakkhdcaaGreatDoor
open Go.Am
set_option maxRecDepth 10000
set_option maxHeartbeats 8000000
theorem Gk {c:Ct} {lang:ae} {root:Int} (x:Cell):dY Lib.itoa esc c lang root x=if br c lang=true then yx Lib.itoa esc c lang root x else []:=by
 unfold dY;by_cases h:br c lang=true
 ·rw [if_pos h,if_pos h,Og IP (cJ (dz h).1)]
 ·rw [if_neg h,if_neg h]
theorem Ek (val:Cell->ae) (r:Cell×ae) (l:List (Cell×ae)):gN val (r::l)=(decide (val r.1≠r.2) || gN val l):=rfl
theorem zW (c:Ct) (hc:c.ok) (root:Int) (lang:ae) (nl:Option Bool) (z:Nat) (l:List (Cell×ae)) (hz:l≠ []->z=3) (hl:l.length<1000000):
  aq cfg 27 [b8 c,.int .i64 root,.str lang,.ag nl z (aN l)] []=some (.bool (gN (dY Lib.itoa esc c lang root) l), []):=by
 refine aa Zw Xa ?_;have w1:=BZ c hc lang;have w2:br c lang=true-> ∀x:Cell,_:=fun h x=>tV c hc root lang x h;have hv: ∀x,dY Lib.itoa esc c lang root x=_:=fun x=>Gk x;have hE: ∀k (h:k<l.length),(aN l)[k]?=some (.agg [.int .i64 l[k].1.1,.int .i64 l[k].1.2,.str l[k].2]):=fun k h=>get_map _ _ h;have hEl:(aN l).length=l.length:=by simp [aN]
 generalize aN l=E at*
 generalize dY Lib.itoa esc c lang root=val at*
 generalize yx Lib.itoa esc c lang root=vi at*
 generalize br c lang=rb at*
 unfold b8 eV at*
 generalize aA c.af=L1 at*
 generalize c.aD.map fD=L2 at*
 generalize c.ao.map cj=L3 at*
 simp (maxSteps:=9^9) (disch:=omega) [-aaO,-aaP,-aaE,-getElem?_pos,-getElem?_neg,om,Xb,w1,hEl];refine Wp.aP (fun (i:Nat)=>l.length-i) (fun i=> [none,some (.int .i64 root),some (.str lang),none,some (.ptr 0 0),none,some (.bool rb),none,none,none,some (.ag nl z E),some (.int .i64 l.length),some (.int .i64 i),none,none,none,none,none]) (fun _=> [.var 26 [.ag c.ln c.lz L1,.ag c.bn c.bz L2,.ag c.sn c.sz L3]]) (fun i=>gN val l=gN val (l.drop i)∧i<=l.length) ?_ 0 ⟨by simp,by omega⟩ (by simp) rfl;rintro i ⟨hi,hil⟩;rw [hi];clear hi;by_cases h1:i<l.length
 ·have hg:=hE i h1;obtain rfl:=hz (ne_of_lt h1);rw [aaB h1,Ek];have hvi:=hv l[i].1;have w3:=fun h=>w2 h l[i].1;clear hE w2 hv w1;generalize l[i]=r at*
  obtain ⟨⟨r1,r2⟩,t⟩:=r;simp only at hg hvi w3⊢;rw [hvi];cases rb with
  | true=>
   have w4:=w3 rfl;rw [if_pos rfl];generalize vi (r1,r2)=x at*
   clear w3 hvi;by_cases he:x=t
   ·have he2:(x !=t)=false:=by simp [he]
    rw [show decide (x≠t)=false by simp [he],abE];simp (maxSteps:=9^9) (disch:=omega) [-aaO,-aaP,-aaE,-getElem?_pos,-getElem?_neg,om,h1,hg,ab,w4,he,he2];exact ⟨i+1,⟨rfl,by omega⟩,by omega,by simp⟩
   ·have he2:(x !=t)=true:=by simpa using he
    rw [show decide (x≠t)=true by simpa using he,adE];simp (maxSteps:=9^9) (disch:=omega) [-aaO,-aaP,-aaE,-getElem?_pos,-getElem?_neg,om,h1,hg,ab,w4,he,he2]
  | false=>
   rw [if_neg (by simp)];clear w3 hvi;by_cases he:t= []
   ·subst he;rw [show decide (([]:ae)≠ [])=false by simp,abE];simp (maxSteps:=9^9) (disch:=omega) [-aaO,-aaP,-aaE,-getElem?_pos,-getElem?_neg,om,h1,hg,ab];exact ⟨i+1,⟨rfl,by omega⟩,by omega,by simp⟩
   ·have he2:(([]:ae) !=t)=true:=by simpa using Ne.symm he
    rw [show decide (([]:ae)≠t)=true by simpa using Ne.symm he,adE];simp (maxSteps:=9^9) (disch:=omega) [-aaO,-aaP,-aaE,-getElem?_pos,-getElem?_neg,om,h1,hg,ab,he,he2]
 ·rw [aaC (by omega)];simp (maxSteps:=9^9) (disch:=omega) [-aaO,-aaP,-aaE,-getElem?_pos,-getElem?_neg,om,h1,gN]
theorem LJ (nl nl':Option Bool) (z z':Nat) (l m:List (Cell×ae)) (hz:l≠ []->z=3) (hz':m≠ []->z'=3) (hl:l.length<1000000) (hm:m.length<1000000):aq cfg 38 [.ag nl z (aN l),.ag nl' z' (aN m)] []=some (.bool (decide (l=m)), []):=by
 refine aa Zx Xc ?_;have hE: ∀k (h:k<l.length),(aN l)[k]?=some (.agg [.int .i64 l[k].1.1,.int .i64 l[k].1.2,.str l[k].2]):=fun k h=>get_map _ _ h;have hE': ∀k (h:k<m.length),(aN m)[k]?=some (.agg [.int .i64 m[k].1.1,.int .i64 m[k].1.2,.str m[k].2]):=fun k h=>get_map _ _ h;have hEl:(aN l).length=l.length:=by simp [aN]
 have hEm:(aN m).length=m.length:=by simp [aN]
 generalize aN l=E at*
 generalize aN m=E' at*
 by_cases hlm:l.length=m.length
 case neg=>
  have h2:((l.length:Int) !=(m.length:Int))=true:=by rw [bne_iff_ne];omega
  have h3: ¬ l=m:=fun h=>hlm (by rw [h]);simp (maxSteps:=9^9) (disch:=omega) [-aaO,-aaP,-aaE,-getElem?_pos,-getElem?_neg,om,SB,hEl,hEm,h2,h3]
 have h2:((l.length:Int) !=(m.length:Int))=false:=by rw [bne_eq_false_iff_eq];omega
 simp (maxSteps:=9^9) (disch:=omega) [-aaO,-aaP,-aaE,-getElem?_pos,-getElem?_neg,om,SB,hEl,hEm,h2];refine Wp.aP (fun (i:Nat)=>l.length-i) (fun i=> [some (.ag nl z E),some (.ag nl' z' E'),none,some (.int .i64 i),none,none,none]) (fun _=> []) (fun i=>(l=m↔l.drop i=m.drop i)∧i<=l.length) ?_ 0 ⟨by simp,by omega⟩ (by simp) rfl;rintro i ⟨hi,hil⟩;by_cases h1:i<l.length
 ·have h1':i<m.length:=by omega
  have hg:=hE i h1;have hg':=hE' i h1';obtain rfl:=hz (ne_of_lt h1);obtain rfl:=hz' (ne_of_lt h1');rw [aaB h1,aaB h1',List.cons.injEq] at hi;clear hE hE';generalize l[i]=r at*
  generalize m[i]=r' at*
  obtain ⟨⟨r1,r2⟩,t⟩:=r;obtain ⟨⟨r1',r2'⟩,t'⟩:=r';simp only at hg hg';simp (maxSteps:=9^9) (disch:=omega) [-aaO,-aaP,-aaE,-getElem?_pos,-getElem?_neg,om,h1,h1',hg,hg',hEl,hEm];split
  ·rename_i q;intro e;obtain ⟨e1,_⟩:=hi.1 e;simp only [Prod.mk.injEq] at e1;obtain ⟨⟨e2,e3⟩,e4⟩:=e1;rcases q with (q | q) | q
   ·exact q e2
   ·exact q e3
   ·exact q e4
  ·rename_i q;simp only [not_or,Classical.not_not] at q;obtain ⟨⟨rfl,rfl⟩,rfl⟩:=q;exact ⟨i+1,⟨by rw [hi];simp,by omega⟩,by omega,by simp⟩
 ·rw [aaC (by omega),aaC (by omega)] at hi;have hi2:l=m:=hi.2 rfl;simp (maxSteps:=9^9) (disch:=omega) [-aaO,-aaP,-aaE,-getElem?_pos,-getElem?_neg,om,h1,hEl,hEm,hi2]
theorem LK (nl nl':Option Bool) (z z':Nat) (l m:List Nd) (hz:l≠ []->z=3) (hz':m≠ []->z'=3) (hl:l.length<1000000) (hm:m.length<1000000):aq cfg 74 [.ag nl z (l.map dO),.ag nl' z' (m.map dO)] []=some (.bool (decide (l=m)), []):=by
 refine aa Zy Xd ?_;have hE: ∀k (h:k<l.length),(l.map dO)[k]?=some (.agg [.int .i64 l[k].depth,.str l[k].tag,.str l[k].text]):=fun k h=>get_map _ _ h;have hE': ∀k (h:k<m.length),(m.map dO)[k]?=some (.agg [.int .i64 m[k].depth,.str m[k].tag,.str m[k].text]):=fun k h=>get_map _ _ h;have hEl:(l.map dO).length=l.length:=by simp
 have hEm:(m.map dO).length=m.length:=by simp
 generalize l.map dO=E at*
 generalize m.map dO=E' at*
 by_cases hlm:l.length=m.length
 case neg=>
  have h2:((l.length:Int) !=(m.length:Int))=true:=by rw [bne_iff_ne];omega
  have h3: ¬ l=m:=fun h=>hlm (by rw [h]);simp (maxSteps:=9^9) (disch:=omega) [-aaO,-aaP,-aaE,-getElem?_pos,-getElem?_neg,om,SC,hEl,hEm,h2,h3]
 have h2:((l.length:Int) !=(m.length:Int))=false:=by rw [bne_eq_false_iff_eq];omega
 simp (maxSteps:=9^9) (disch:=omega) [-aaO,-aaP,-aaE,-getElem?_pos,-getElem?_neg,om,SC,hEl,hEm,h2];refine Wp.aP (fun (i:Nat)=>l.length-i) (fun i=> [some (.ag nl z E),some (.ag nl' z' E'),none,some (.int .i64 i),none,none,none]) (fun _=> []) (fun i=>(l=m↔l.drop i=m.drop i)∧i<=l.length) ?_ 0 ⟨by simp,by omega⟩ (by simp) rfl;rintro i ⟨hi,hil⟩;by_cases h1:i<l.length
 ·have h1':i<m.length:=by omega
  have hg:=hE i h1;have hg':=hE' i h1';obtain rfl:=hz (ne_of_lt h1);obtain rfl:=hz' (ne_of_lt h1');rw [aaB h1,aaB h1',List.cons.injEq] at hi;clear hE hE';generalize l[i]=r at*
  generalize m[i]=r' at*
  obtain ⟨r1,r2,t⟩:=r;obtain ⟨r1',r2',t'⟩:=r';simp only at hg hg';simp (maxSteps:=9^9) (disch:=omega) [-aaO,-aaP,-aaE,-getElem?_pos,-getElem?_neg,om,h1,h1',hg,hg',hEl,hEm];split
  ·rename_i q;intro e;obtain ⟨e1,_⟩:=hi.1 e;simp only [Nd.mk.injEq] at e1;obtain ⟨e2,e3,e4⟩:=e1;rcases q with q | q | q
   ·exact q e2
   ·exact q e3
   ·exact q e4
  ·rename_i q;simp only [not_or,Classical.not_not] at q;obtain ⟨rfl,rfl,rfl⟩:=q;exact ⟨i+1,⟨by rw [hi];simp,by omega⟩,by omega,by simp⟩
 ·rw [aaC (by omega),aaC (by omega)] at hi;have hi2:l=m:=hi.2 rfl;simp (maxSteps:=9^9) (disch:=omega) [-aaO,-aaP,-aaE,-getElem?_pos,-getElem?_neg,om,h1,hEl,hEm,hi2]
theorem x6 (s t:mm) (nl nl':Option Bool) (z z':Nat) (hz:s.nodes≠ []->z=3) (hz':t.nodes≠ []->z'=3) (hl:s.nodes.length<1000000) (hm:t.nodes.length<1000000):
  aq cfg 39 [.agg [.int .i64 s.unit,.str s.num,.ag nl z (s.nodes.map dO)],.agg [.int .i64 t.unit,.str t.num,.ag nl' z' (t.nodes.map dO)]] []=some (.bool (decide (s=t)), []):=by
 refine aa Zz Xe ?_;have w:=LK nl nl' z z' s.nodes t.nodes hz hz' hl hm;obtain ⟨a,b,l⟩:=s;obtain ⟨a',b',l'⟩:=t;simp only at w⊢
 have hd:decide (mm.mk a b l=⟨a',b',l'⟩)=(decide (a=a')&&(decide (b=b')&&decide (l=l'))):=by rw [Bool.eq_iff_iff];simp
 rw [hd];generalize decide (l=l')=dl at*
 generalize l.map dO=E at*
 generalize l'.map dO=E' at*
 by_cases h1:a=a'
 ·by_cases h2:b=b'
  ·simp (maxSteps:=9^9) (disch:=omega) [-aaO,-aaP,-aaE,-getElem?_pos,-getElem?_neg,om,OH,w,h1,h2]
  ·have h2':(b==b')=false:=by simpa using h2
   simp (maxSteps:=9^9) (disch:=omega) [-aaO,-aaP,-aaE,-getElem?_pos,-getElem?_neg,om,OH,w,h1,h2,h2']
 ·have h1':(a==a')=false:=by simpa using h1
  simp (maxSteps:=9^9) (disch:=omega) [-aaO,-aaP,-aaE,-getElem?_pos,-getElem?_neg,om,OH,w,h1,h1']
def dh (l:List Cell):List AV:=l.map nF
theorem eA: ∀l:List Cell,ai (dh l)=true
 | []=>rfl
 | x::r=>by simp [dh,nF,ai,AV.plain];exact eA r
theorem SD (nl:Option Bool) (z:Nat) (l:List Cell) (hz:l≠ []->z=2) (hl:l.length<1000000) (x:Cell): ∃i:Int,aq cfg 109 [.ag nl z (dh l),nF x] []=some (.int .i64 i, [])∧(0<=i↔x∈l):=by
 obtain ⟨i,hi⟩: ∃i:Int,i=match l.findIdx? (fun y=>decide (x=y)) with | some k=>(k:Int) | none=> -1:=⟨_,rfl⟩
 refine ⟨i,aa Xf SE ?_,?_⟩
 case refine_2=>
  rw [hi];cases h:l.findIdx? (fun y=>decide (x=y)) with
  | none=>rw [List.findIdx?_eq_none_iff] at h;simp only [show¬ (0:Int)<= -1 by decide,false_iff];intro hx;simpa using h x hx
  | some k=>rw [List.findIdx?_eq_some_iff_getElem] at h;obtain ⟨h1,h2,_⟩:=h;have:x=l[k]:=of_decide_eq_true h2;simp only [show (0:Int)<=(k:Int) by omega,true_iff];rw [this];exact List.getElem_mem h1
 have hE: ∀k (h:k<l.length),(dh l)[k]?=some (.agg [.int .i64 l[k].1,.int .i64 l[k].2]):=fun k h=>get_map _ _ h;have hEl:(dh l).length=l.length:=by simp [dh]
 generalize dh l=E at*
 obtain ⟨x1,x2⟩:=x;unfold nF;simp only;simp (maxSteps:=9^9) (disch:=omega) [-aaO,-aaP,-aaE,-getElem?_pos,-getElem?_neg,om,P5,hEl];refine Wp.aP (fun (i:Nat)=>l.length-i) (fun i=> [some (.ag nl z E),none,some (.ptr 0 0),none,none,some (.int .i64 l.length),some (.int .i64 i),none,none]) (fun _=> [.var 78 [.int .i64 x1,.int .i64 x2]]) (fun k=>i=(match (l.drop k).findIdx? (fun y=>decide ((x1,x2)=y)) with | some j=>(k:Int)+(j:Int) | none=> -1)∧k<=l.length) ?_ 0 ⟨by simpa using hi,by omega⟩ (by simp) rfl;clear hi;rintro k ⟨hi,hil⟩;by_cases h1:k<l.length
 ·have hg:=hE k h1;obtain rfl:=hz (ne_of_lt h1);rw [aaB h1,List.findIdx?_cons] at hi;clear hE;generalize l[k]=r at*
  obtain ⟨r1,r2⟩:=r;simp only at hg;simp (maxSteps:=9^9) (disch:=omega) [-aaO,-aaP,-aaE,-getElem?_pos,-getElem?_neg,om,h1,hg,hEl];split
  ·rename_i q;obtain ⟨rfl,rfl⟩:=q;simpa using hi.symm
  ·rename_i q;have hd:decide (((x1,x2):Cell)=(r1,r2))=false:=by simpa using q
   rw [hd] at hi;refine ⟨k+1,⟨?_,by omega⟩,by omega,by simp⟩;rw [hi];cases (l.drop (k+1)).findIdx? (fun y=>decide ((x1,x2)=y)) with
   | none=>rfl
   | some j=>show (k:Int)+((j+1:Nat):Int)=((k+1:Nat):Int)+(j:Int);omega
 ·rw [aaC (by omega)] at hi;subst hi;simp (maxSteps:=9^9) (disch:=omega) [-aaO,-aaP,-aaE,-getElem?_pos,-getElem?_neg,om,h1,hEl]
theorem OI (nl:Option Bool) (z:Nat) (l:List Cell) (hz:l≠ []->z=2) (hl:l.length<1000000) (x:Cell):aq cfg 63 [.ag nl z (dh l),nF x] []=some (.bool (decide (x∈l)), []):=by
 refine aa ZA Xg ?_;obtain ⟨i,h1,h2⟩:=SD nl z l hz hl x;obtain ⟨x1,x2⟩:=x;unfold nF at*
 simp only at h1⊢;generalize dh l=E at*
 by_cases h3:(x1,x2)∈l
 ·have h4:=h2.2 h3;simp (maxSteps:=9^9) (disch:=omega) [-aaO,-aaP,-aaE,-getElem?_pos,-getElem?_neg,om,SF,h1,h3,h4]
 ·have h4: ¬ 0<=i:=fun h=>h3 (h2.1 h);simp (maxSteps:=9^9) (disch:=omega) [-aaO,-aaP,-aaE,-getElem?_pos,-getElem?_neg,om,SF,h1,h3,h4]
theorem Bw (f g:Cell->ae) (x:Cell) (l:List Cell):iw f g (x::l)=if f x=g x then iw f g l else x::iw f g l:=by
 unfold iw;rw [List.filter_cons];by_cases h:f x=g x
 ·rw [if_neg (by simpa using h),if_pos h]
 ·rw [if_pos (by simpa using h),if_neg h]
theorem Ja (a b:Ct) (ha:a.ok) (hb:b.ok) (root:Int) (lang:ae) (nl:Option Bool) (z:Nat) (l:List Cell) (hz:l≠ []->z=2) (hl:l.length<1000000):
  aq cfg 28 [b8 a,b8 b,.int .i64 root,.str lang,.ag nl z (dh l)] []=some (.ag none 2 (dh (iw (dY Lib.itoa esc a lang root) (dY Lib.itoa esc b lang root) l)), []):=by
 refine aa ZB Xh ?_;have w1: ∀x:Cell,_:=fun x=>zO a ha root lang x;have w2: ∀x:Cell,_:=fun x=>zO b hb root lang x;simp only [<-Gk] at w1 w2;have hE: ∀k (h:k<l.length),(dh l)[k]?=some (.agg [.int .i64 l[k].1,.int .i64 l[k].2]):=fun k h=>get_map _ _ h;have hEl:(dh l).length=l.length:=by simp [dh]
 generalize dh l=E at*
 generalize dY Lib.itoa esc a lang root=va at*
 generalize dY Lib.itoa esc b lang root=vb at*
 unfold b8 eV at*
 generalize aA a.af=L1 at*
 generalize a.aD.map fD=L2 at*
 generalize a.ao.map cj=L3 at*
 generalize aA b.af=M1 at*
 generalize b.aD.map fD=M2 at*
 generalize b.ao.map cj=M3 at*
 simp (maxSteps:=9^9) (disch:=omega) [-aaO,-aaP,-aaE,-getElem?_pos,-getElem?_neg,om,Xi,hEl];refine Wp.aP (fun (x:Nat×List Cell)=>l.length-x.1) (fun x=> [none,none,some (.int .i64 root),some (.str lang),none,some (.ptr 0 0),some (.ptr 1 0),none,some (.ax 2 x.2.length),none,some (.ag nl z E),some (.int .i64 l.length),some (.int .i64 x.1),none,none,none,none,none,none,none]) (fun x=> [.var 26 [.ag a.ln a.lz L1,.ag a.bn a.bz L2,.ag a.sn a.sz L3],.var 26 [.ag b.ln b.lz M1,.ag b.bn b.bz M2,.ag b.sn b.sz M3],.sl ⟨false,some 78,none⟩ 2 (dh x.2)]) (fun x=>iw va vb l=x.2++iw va vb (l.drop x.1)∧x.1<=l.length∧x.2.length<=x.1) ?_ (0, []) ⟨by simp,by simp,by simp⟩ (by simp) (by simp [dh]);rintro ⟨i,out⟩ ⟨hi,hil,hol⟩;simp only at hi hil hol⊢;rw [hi];clear hi;have hol2:(dh out).length=out.length:=by simp [dh]
 by_cases h1:i<l.length
 ·have hg:=hE i h1;obtain rfl:=hz (ne_of_lt h1);rw [aaB h1,Bw];have w3:=w1 l[i];have w4:=w2 l[i];clear hE w1 w2;generalize l[i]=r at*
  obtain ⟨r1,r2⟩:=r;simp only at hg w3 w4⊢;generalize va (r1,r2)=x at*
  generalize vb (r1,r2)=y at*
  by_cases he:x=y
  ·rw [if_pos he];have he2:(x !=y)=false:=by simp [he]
   simp (maxSteps:=9^9) (disch:=omega) [-aaO,-aaP,-aaE,-getElem?_pos,-getElem?_neg,om,h1,hg,hEl,ab,w3,w4,he,he2];exact ⟨i+1,out,⟨rfl,by omega,by omega⟩,by omega,by simp,rfl⟩
  ·rw [if_neg he];have he2:(x !=y)=true:=by simpa using he
   simp (maxSteps:=9^9) (disch:=omega) [-aaO,-aaP,-aaE,-getElem?_pos,-getElem?_neg,om,h1,hg,hEl,ab,w3,w4,he,he2,hol2];exact ⟨i+1,out++ [(r1,r2)],⟨by simp,by omega,by simp;omega⟩,by omega,by simp,by simp [dh,nF]⟩
 ·rw [aaC (by omega)];have hpl:=eA out;simp (maxSteps:=9^9) (disch:=omega) [-aaO,-aaP,-aaE,-getElem?_pos,-getElem?_neg,om,h1,hEl,iw,hpl]
theorem Jb (c:Ct) (hc:c.ok) (root u:Int) (lang:ae) (h:(bN Lib.itoa esc c root lang u).2=0):aq cfg 66 [b8 c,.int .i64 root,.str lang,.int .i64 u] []=some (.aL [.ag none 3 (aN (bN Lib.itoa esc c root lang u).1),.int .i64 0], []):=by
 unfold bN at h⊢;by_cases h0:aH c root lang=0
 ·rw [if_neg (by simpa using h0)] at h⊢;by_cases h1:cP Lib.itoa c root u= []
  ·rw [if_pos h1] at h;cases h
  ·rw [if_neg h1]
   have e:((cellsOf u (ba c u lang)).map fun z=>(z,dY Lib.itoa esc c lang root z))=((cellsOf u (ba c u lang)).map fun z=>(z,yx Lib.itoa esc c lang root z)):=by have hr:=dA h0;congr 1;funext z;rw [Gk,if_pos hr]
   rw [e];exact IQ c hc root u lang h0 h1
 ·rw [if_pos h0] at h;exact absurd h h0
set_option maxRecDepth 100000
def oM (t:ae):Ct:=⟨[[101,110], [100,101]], [⟨1, [100,101], [73,110,104,97,108,116],0⟩,⟨1, [101,110], [67,111,110,116,101,110,116,115],0⟩],
 [⟨7,0,1, [65], [84,111,119,110], [⟨1, [100,101], [65,108,108,101,115]⟩,⟨1, [101,110], [83,101,101,32,91,57,93]⟩],none,3⟩,⟨9,7,3, [],t, [],some true,0⟩],none,1,none,4,none,6⟩
def HA:Ct:=oM [87,97,108,108,115]
def zX:Ct:=oM [71,97,116,101]
theorem HB (t:ae):(oM t).ok:=⟨by simp [oM],by simp [oM],by simp [oM],by simp [oM],by simp [oM],by simp [oM],fun s hs=>by
 simp only [oM,aaQ,List.not_mem_nil,or_false] at hs;rcases hs with rfl | rfl <;> exact ⟨by simp,by simp⟩⟩
def Jv:List AV:= [.agg [.int .i64 1,.str [100,101],.str [73,110,104,97,108,116],.int .i64 0],.agg [.int .i64 1,.str [101,110],.str [67,111,110,116,101,110,116,115],.int .i64 0]]
def Jc:List AV:= [.agg [.int .i64 1,.str [100,101],.str [65,108,108,101,115]],.agg [.int .i64 1,.str [101,110],.str [83,101,101,32,91,57,93]]]
def OJ:List AV:= [.agg [.int .i64 7,.int .i64 0,.int .i64 1,.str [65],.str [84,111,119,110],.ag none 3 Jc],.agg [.int .i64 9,.int .i64 7,.int .i64 3,.str [],.str [87,97,108,108,115],.ag (some true) 0 []]]
theorem LM : aq cfg 34 [] [] = some (.agg [.ax 4 2, .ax 5 2, .ax 7 2], [.var 26 [.ax 4 2, .ax 5 2, .ax 7 2], .sl ⟨false, some 9, none⟩ 1 [], .sl ⟨false, some 80, none⟩ 4 [], .sl ⟨false, some 74, none⟩ 6 [],
     .sl ⟨false, some 9, none⟩ 1 [.str [101, 110], .str [100, 101]],
     .sl ⟨false, some 80, none⟩ 4 Jv,
     .sl ⟨true, some 76, none⟩ 3 Jc,
     .sl ⟨false, some 74, none⟩ 6 OJ]) := by
 refine aa SG LN ?_;simp (maxSteps:=9^9) (disch:=omega) [-aaO,-aaP,-aaE,-getElem?_pos,-getElem?_neg,om,OK,ab,Jv,Jc,OJ]
theorem LO : aq cfg 34 [] [.dead] = some (.agg [.ax 5 2, .ax 6 2, .ax 8 2], [.dead, .var 26 [.ax 5 2, .ax 6 2, .ax 8 2], .sl ⟨false, some 9, none⟩ 1 [], .sl ⟨false, some 80, none⟩ 4 [], .sl ⟨false, some 74, none⟩ 6 [],
     .sl ⟨false, some 9, none⟩ 1 [.str [101, 110], .str [100, 101]],
     .sl ⟨false, some 80, none⟩ 4 Jv,
     .sl ⟨true, some 76, none⟩ 3 Jc,
     .sl ⟨false, some 74, none⟩ 6 OJ]) := by
 refine aa SG LN ?_;simp (maxSteps:=9^9) (disch:=omega) [-aaO,-aaP,-aaE,-getElem?_pos,-getElem?_neg,om,OK,ab,Jv,Jc,OJ]
set_option maxRecDepth 10000
set_option maxHeartbeats 4000000
theorem tZ: ∀(l K:List Cell),(l.foldl lp K).length<=K.length+l.length
 | [],K=>by simp
 | x::r,K=>by
  have h1:=tZ r (lp K x);have h2:=LP K x;simp only [List.foldl_cons,aaH];omega
theorem yz (t:ae):(eM t).length<=t.length:=by unfold eM;refine abd (List.length_filterMap_le _ _) (by simp)
theorem x7 {N:Nat}: ∀(l:List Fc),(∀f∈l,f.text.length<=N)->(l.flatMap cF).length<=l.length*(N+1)
 | [],_=>by simp
 | f::r,h=>by
  have h1:=x7 r (fun g hg=>h g (by simp [hg]));have h2:=yz f.text;have h3:=h f (by simp);rw [abr,aba,aaH,adF];have:(cF f).length=(eM f.text).length+1:=rfl;omega
theorem x8 {c:Ct} (hc:gl c) {u:Int} {lang:ae}:(ba c u lang).length<=32∧ ∀f∈ba c u lang,FV c.af f:=by
 unfold ba;split
 ·unfold k7;cases hs:dI c u with
  | none=>simp [an]
  | some s=>obtain ⟨_,_,_,_,hm⟩:=kQ hs;have ho:=hc.ao s hm;exact ⟨abd (gf _ _) ho.K8,fun f hf=>ho.facts f (aM hf)⟩
 ·simp
theorem Jd (c:Ct) (root u:Int) (lang:ae):(bN Lib.itoa esc c root lang u).1.length<1000000:=by
 unfold bN;split
 ·simp
 ·rename_i h0;have h0:aH c root lang=0:=by simpa using h0
  split
  ·simp
  ·have hc:=cJ (dz (dA h0)).1;obtain ⟨h1,h2⟩:=x8 hc (u:=u) (lang:=lang);have h3:=x7 (N:=4096) _ (fun f hf=>(h2 f hf).len);have h4:=tZ ((ba c u lang).flatMap cF) [(1,u),(2,u)];have h5:(ba c u lang).length*(4096+1)<=32*(4096+1):=acF _ h1;simp only [abp,cellsOf];simp only [aaH,abL] at h4;omega
theorem LQ (l:List Sh) (root:Int): ∀(i:Nat),i<l.length->l.length<=400->(oC Lib.itoa l root i).length<=30*(i+1):=by
 intro i
 induction i using Nat.strongRecOn with
 | _ i ih=>
 intro hil hl;rw [tI Lib.itoa (List.getElem?_eq_getElem hil)];split
 ·simp only [aaH,abL];omega
 ·have hcnt:=LR (yv l l[i].par) (i+1);have hi:=Lib.itoa_length_le ((zw (yv l l[i].par) (i+1):Nat):Int) (by omega) (by omega);split
  ·rename_i j hj;have hjl:=ep hj;simp only [List.length_take] at hjl;have:=ih j (by omega) (by omega) hl;simp only [aba,aaH,abL];omega
  ·simp only [aba,aaH,abL];omega
theorem El {c:Ct} (hc:gl c) (root u:Int):(cP Lib.itoa c root u).length<=10000:=by
 rw [kK hc];unfold pg;split
 ·rename_i i hi;split
  ·have hil:=ep hi;have:=LQ c.ao root i hil (by have:=hc.JP;omega);have:=hc.JP;omega
  ·simp
 ·simp
theorem Em {c:Ct} (hf:fv c=true) (hc:gl c) {s:Sh} (hs:s∈c.ao) {f:Fc} (h:f∈s.facts):f.text.length<=60:=by unfold fv at hf;simp only [abj,abH] at hf;have h1:=hf.2.2.2 s hs;unfold ua at h1;simp only [abj,abH] at h1;have h2:=h1.2 f h;unfold Je oN at h2;simp only [abj,decide_eq_true_eq] at h2;have:=((hc.ao s hs).facts f h).len;omega
theorem LS (n:Nat):(jq n).length<=6:=by
 unfold jq
 repeat' split
 all_goals decide
theorem LU (n:Nat):(ny n).length<=2:=by unfold ny;split <;> simp
theorem Jf {lev:Nat} {title mark:ae} {facts:List (Nat×ae)} (h1:title.length<=64) (h2:mark.length<=64) (h3: ∀f∈facts,f.2.length<=60): ∀p∈gL esc lev title mark facts,p.length<=300:=by
 intro p hp;unfold gL at hp;simp only [aaQ,aaS] at hp;have e:=j6;rcases hp with rfl | rfl | ⟨f,hf,rfl⟩
 ·have:=LS lev;have:=e title;simp only [aba,aaH];omega
 ·have:=e mark;simp only [aba,aaH,oD,abL];omega
 ·have:=h3 f hf;have:=e f.2;have:=LU f.1;unfold u3;simp only [aba,aaH];omega
theorem zY {N:Nat}: ∀(l:List ae),(∀p∈l,p.length<=N)->(l.flatMap fun p=>p++ [(10:UInt8)]).length<=l.length*(N+1)
 | [],_=>by simp
 | f::r,h=>by
  have h1:=zY r (fun g hg=>h g (by simp [hg]));have h3:=h f (by simp);rw [abr,aba,aaH,adF,aba];simp only [aaH,abL];omega
theorem Bx {l:List ae} (hl:l≠ []) (h: ∀p∈l,(10:UInt8)∉p):splitB 10 (l.flatMap fun p=>p++ [(10:UInt8)]).dropLast=l:=by
 have:=uZ hl h;unfold tL at this;split at this
 ·exact Option.some.inj this
 ·cases this
theorem yA {c:Ct} (hf:fv c=true) (hc:gl c) {s:Sh} (hs:s∈c.ao) (order:List ae):(((an order s.facts).map dG).length<=32)∧(∀f∈(an order s.facts).map dG,f.2.length<=60∧1<=f.1∧f.1<=64):=by refine ⟨by rw [abp];exact abd (gf _ _) (hc.ao s hs).K8,fun f h=> ?_⟩;obtain ⟨g,hg,rfl⟩:=aaS.1 h;have hm:=aM hg;have h1:=Em hf hc hs hm;have h2:=((hc.ao s hs).facts g hm).EP;have h3:=((hc.ao s hs).facts g hm).JR;unfold dG;simp only;omega
theorem x9 {c:Ct} (hf:fv c=true) (hc:gl c) {s:Sh} (hs:s∈c.ao) (order:List ae):(fZ esc order s).length<900000∧ ∀p∈splitB 10 (fZ esc order s).dropLast,p.length<=300:=by
 obtain ⟨h1,h2⟩:=yA hf hc hs order;have ho:=hc.ao s hs;have h3:=Jf (lev:=s.level.toNat) ho.BX ho.mark (fun f h=>(h2 f h).1);have h4:=DU dS (fun s=>LH (by decide)) s.level.toNat s.title s.mark _ (fun f h=>(h2 f h).2);unfold fZ u4;rw [Bx (by simp [gL]) h4];have h5:=zY _ h3;have h6:(gL esc s.level.toNat s.title s.mark ((an order s.facts).map dG)).length<=34:=by unfold gL;simp only [aaH,abp] at h1⊢;omega
 have h7:(gL esc s.level.toNat s.title s.mark ((an order s.facts).map dG)).length*(300+1)<=34*(300+1):=acF _ h6;exact ⟨by omega,h3⟩
theorem LV {c:Ct} (hc:gl c) (order:List ae) (el:Int) (h0:1<=el) (h9:el<=64):(gz order c.aD el (gd Lib.itoa el)).length<=1000:=by refine abd (mo (N:=64) order el c.aD _ _ ?_ (fun y hy=>(hc.aD y hy).len)) (by omega);have:=Lib.itoa_length_le el (by omega) (by omega);simp [gd];omega
structure ZC (c:Ct) (root:Int) (lang:ae):Prop where
 one: ∀u,(dY Lib.itoa esc c lang root (1,u)).length<=10000
 two: ∀u,(dY Lib.itoa esc c lang root (2,u)).length<900000
 ZD: ∀u,∀p∈splitB 10 (dY Lib.itoa esc c lang root (2,u)).dropLast,p.length<=300
 more: ∀k u,k=3∨k=4->(dY Lib.itoa esc c lang root (k,u)).length<=1000
theorem Gl {c:Ct} (hf:fv c=true) (root:Int) (lang:ae):ZC c root lang:=by
 have key: ∀x:Cell,dY Lib.itoa esc c lang root x= []∨(gl c∧dY Lib.itoa esc c lang root x=xR Lib.itoa esc c (au c.af lang) root x):=fun x=>by
  unfold dY;by_cases h:br c lang=true
  ·rw [if_pos h];exact .inr ⟨cJ (dz h).1,rfl⟩
  ·rw [if_neg h];exact .inl rfl
 have k2: ∀u,dY Lib.itoa esc c lang root (2,u)= []∨(gl c∧ ∃s∈c.ao,dY Lib.itoa esc c lang root (2,u)=fZ esc (au c.af lang) s):=fun u=>by
  rcases key (2,u) with h | ⟨hc,h⟩
  ·exact .inl h
  ·rw [h];unfold xR ef;simp only [show¬ (2:Int)=3 by decide,show¬ (2:Int)=1 by decide,if_false,if_true,false_and];split
   ·split
    ·rename_i i hi s hs;exact .inr ⟨hc,s,List.mem_of_getElem? hs,rfl⟩
    ·exact .inl rfl
   ·exact .inl rfl
 refine ⟨fun u=> ?_,fun u=> ?_,fun u=> ?_,fun k u hk=> ?_⟩
 ·rcases key (1,u) with h | ⟨hc,h⟩
  ·rw [h];simp
  ·rw [h];unfold xR ef;simp only [show¬ (1:Int)=3 by decide,if_false,if_true,false_and];exact El hc root u
 ·rcases k2 u with h | ⟨hc,s,hs,h⟩
  ·rw [h];simp
  ·rw [h];exact (x9 hf hc hs _).1
 ·rcases k2 u with h | ⟨hc,s,hs,h⟩
  ·rw [h];simp [splitB]
  ·rw [h];exact (x9 hf hc hs _).2
 ·rcases key (k,u) with h | ⟨hc,h⟩
  ·rw [h];simp
  ·rw [h];unfold xR;rcases hk with rfl | rfl
   ·simp only [true_and];split
    ·simp
    ·rename_i hr;unfold ef;simp only [show¬ (3:Int)=1 by decide,show¬ (3:Int)=2 by decide,if_false,if_true];exact LV hc _ u (by omega) (by omega)
   ·unfold ef;simp only [show¬ (4:Int)=1 by decide,show¬ (4:Int)=2 by decide,show¬ (4:Int)=3 by decide,if_false,if_true,false_and];exact BW (fun s hs=>⟨(hc.ao s hs).mark,(hc.ao s hs).BX⟩) u
open Go.Am Go.ChangeShapes Go.WideShapes Go.RowKit
set_option maxHeartbeats 8000000
def SH (o:Option mm):AV:=match o with | some s=>du s | none=>vu
theorem En (q:Int×Option mm):iV q= .aL [SH q.2,.int .i64 q.1]:=rfl
theorem ya {l:List (Cell×ae)} {d:Int}: ∀{fs:List (Nat×ae)} {ns:List Nd},j5 l d fs=some ns->ns.length=fs.length
 | [],ns,h=>by cases h;rfl
 | f::r,ns,h=>by
  unfold j5 at h;split at h
  ·rename_i lab t ms h1 h2 h3;injection h with h;subst h;have:=ya h3;simp [this]
  ·cases h
theorem LW {unit:Int} {l:List (Cell×ae)} {N:Nat} (hN: ∀p∈splitB 10 ((aw l (2,unit)).getD []).dropLast,p.length<=N) {s:mm} (h:(dH unesc unit l).2=some s):s.nodes.length<1000000:=by
 unfold dH at h;split at h
 ·unfold DV at h;split at h
  ·cases h
  ·split at h
   ·cases h
   ·rename_i x hx;obtain ⟨_,_,k,_⟩:=xX hx hN;split at h
    ·cases h
    ·rename_i ns hns;injection h with h;subst h;have:=ya hns;simp only [aaH,aba];unfold zH;split <;> simp <;> omega
 ·cases h
theorem yb (o:Option mm): ∃u n nl z ns,SH o= .agg [.int .i64 u,.str n,.ag nl z (List.map dO ns)]:=by
 cases o with
 | none=>exact ⟨0, [],some true,0, [],rfl⟩
 | some s=>exact ⟨s.unit,s.num,none,3,s.nodes,rfl⟩
theorem aK (l:List Nd):ai (l.map dO)=true:=cQ (fun _=>rfl) l
theorem m9 (it:Int->ae) (root:Int): ∀(l:List Sh) (st:NS),(bK it root st l).length<=l.length∧ ∀x∈bK it root st l,x.1∈l
 | [],st=>by simp [bK]
 | s::r,st=>by
  unfold bK;have h:=m9 it root r (eo it root st s);split
  ·refine ⟨by simp only [aaH];omega,fun x hx=> ?_⟩;rcases aaQ.1 hx with rfl | hx
   ·simp
   ·exact abO _ (h.2 x hx)
  ·exact ⟨by simp only [aaH];omega,fun x hx=>abO _ (h.2 x hx)⟩
theorem LX {c:Ct} (hc:gl c) (order:List ae) {x:Sh×ae} (hx:x.1∈c.ao):(kZ Lib.itoa order c x).nodes.length<1000000:=by have h1:=gf order x.1.facts;have h2:=(hc.ao _ hx).K8;unfold kZ yK;simp only [aaH,aba,abp];split <;> simp <;> omega
theorem na (s:ae):(10:UInt8)∉esc s:=LH (by decide)
end Go.Proofs.YtfgbpngakkhdcaaGreatDoor
