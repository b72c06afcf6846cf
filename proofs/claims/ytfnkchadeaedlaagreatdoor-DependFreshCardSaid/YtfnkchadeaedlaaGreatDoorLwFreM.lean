/-
 The law DependFresh.
-/
import Derived.Test.YtfnkchadeaedlaaGreatDoorLwEnoM
import Derived.Test.YtfnkchadeaedlaaGreatDoorLsM
set_option linter.all false
namespace Go.Proofs.YtfnkchadeaedlaaGreatDoor
open Go.Am
set_option maxRecDepth 10000
set_option maxHeartbeats 8000000
def xX (u:Int):List tf→Option Nat
 | []=>none
 | s::r=>if s.unit=u then some 0 else (xX u r).map (· +1)
def s9 (u:Int):List tf→Nat→Int
 | [],_=> -1
 | s::r,i=>if s.unit=u then (i:Int) else s9 u r (i+1)
theorem zf (u:Int): ∀(l:List tf) (i:Nat),s9 u l i=match xX u l with | some k=>((i+k:Nat):Int) | none=> -1
 | [],i=>rfl
 | x::r,i=>by
  unfold s9 xX;by_cases h:x.unit=u
  ·rw [if_pos h,if_pos h];simp
  ·rw [if_neg h,if_neg h];rw [zf u r (i+1)];cases xX u r with
   | none=>rfl
   | some k=>simp only [Option.map_some];congr 1;omega
theorem pt {u:Int}: ∀{l:List tf} {s:tf},l.find? (fun s=>decide (s.unit=u))=some s→ ∃i,xX u l=some i∧i<l.length∧l[i]?=some s
 | [],s,h=>by cases h
 | x::r,s,h=>by
  rw [List.find?_cons] at h;unfold xX;by_cases hx:x.unit=u
  ·rw [show decide (x.unit=u)=true by simpa using hx] at h;cases h;exact ⟨0,by rw [if_pos hx],by simp,rfl⟩
  ·rw [show decide (x.unit=u)=false by simpa using hx] at h;obtain ⟨i,h1,h2,h3⟩:=pt h;exact ⟨i+1,by rw [if_neg hx,h1];rfl,by simp only [List.length_cons];omega,by simpa using h3⟩
theorem BW (nl:Option Bool) (z:Nat) (l:List tf) (hz:l≠ []→z=3) (hl:l.length<1000000) (f:FuncId) (hns:wq f) (j:Nat) (bs:List ab) (u:Int)
  (hf: ∀s:tf,ar cfg f [cN s,.ptr j 0] bs=some (.bool (s.unit==u),bs)) (hj:j<bs.length) (hsh:shut bs.length bs=true):
  ar cfg 23 [.ah nl z (l.map cN),.fn f [] [.ptr j 0]] bs=some (.int .i64 (s9 u l 0),bs):=by
 refine ad T0 Sd ?_;have hLl:(l.map cN).length=l.length:=by simp
 have hE: ∀i (h:i<l.length),(l.map cN)[i]?=some (cN l[i]):=fun i h=>get_map _ _ h;generalize l.map cN=E at*
 obtain ⟨n1,n2,n3,n4⟩:=hns;simp only [exts,tc,Gs,jX] at n1 n2 n3 n4;have hm:=shut_map (Nat.le_refl _) hsh;simp (maxSteps:=9^9) (disch:=omega) [-List.map_replicate,-List.map_set,-List.getD_eq_getElem?_getD,-getElem?_pos,-getElem?_neg,om,Se,hLl];refine Wp.bw (fun (i:Nat)=>l.length-i) (fun i=> [some (.ah nl z E),some (.fn f [] [.ptr j 0]),none,none,some (.int .i64 l.length),some (.int .i64 i),none,none]) (fun _=>bs) (fun i=>s9 u l 0=s9 u (l.drop i) i∧i≤l.length) ?_ 0 ⟨by simp,by omega⟩ (by simp) rfl;rintro i ⟨hi,hil⟩;rw [hi];clear hi;by_cases h1:i<l.length
 ·have hg:=hE i h1;have hs:=hf l[i];obtain rfl:=hz (ne_of_lt h1);rw [List.drop_eq_getElem_cons h1];simp only [s9];have hpl:=iK l[i].nodes;generalize l[i]=x at*
  unfold cN at hg hs;generalize x.nodes.map gO=NX at*
  simp (maxSteps:=9^9) (disch:=omega) [-List.map_replicate,-List.map_set,-List.getD_eq_getElem?_getD,-getElem?_pos,-getElem?_neg,om,h1,hg,hs,n1,n2,n3,n4,hpl];exact fun _=>⟨i+1,⟨rfl,by omega⟩,by omega,by simp⟩
 ·rw [List.drop_eq_nil_of_le (by omega)];simp (maxSteps:=9^9) (disch:=omega) [-List.map_replicate,-List.map_set,-List.getD_eq_getElem?_getD,-getElem?_pos,-getElem?_neg,om,h1,s9]
theorem Ly (s:tf) (u:Int) (n1 n2 n3 n4 n5 n6 n7 n8:Option Bool) (z1 z2 z3 z4 z5 z6 z7 z8:Nat) (e1 e2 e3 e4 e5 e6 e7 e8:List AV) (r1 r2:Int) (t1 t2:ae):ar cfg 22 [cN s,.ptr 2 0] [.var 26 [.ah n1 z1 e1,.ah n2 z2 e2,.ah n3 z3 e3],.var 26 [.ah n4 z4 e4,.ah n5 z5 e5,.ah n6 z6 e6],.var 3 [.int .i64 u],.var 41 [.int .i64 r1,.str t1,.ah n7 z7 e7],.var 41 [.int .i64 r2,.str t2,.ah n8 z8 e8]]=some (.bool (s.unit==u), [.var 26 [.ah n1 z1 e1,.ah n2 z2 e2,.ah n3 z3 e3],.var 26 [.ah n4 z4 e4,.ah n5 z5 e5,.ah n6 z6 e6],.var 3 [.int .i64 u],.var 41 [.int .i64 r1,.str t1,.ah n7 z7 e7],.var 41 [.int .i64 r2,.str t2,.ah n8 z8 e8]]):=by
 refine ad T1 Sf ?_;unfold cN;have hpl:=iK s.nodes;generalize s.nodes.map gO=NX at*
 simp (maxSteps:=9^9) (disch:=omega) [-List.map_replicate,-List.map_set,-List.getD_eq_getElem?_getD,-getElem?_pos,-getElem?_neg,om,Sg,hpl]
theorem Gq (c d:Ct) (hi:c.B1) (hj:d.B1) (root unit:Int) (lang:ae) (hlang:lang.length≤maxLen):ar cfg 5 [bM c,bM d,.int .i64 root,.int .i64 unit,.str lang] []=some (.bool true, []):=by
 refine ad Uz T2 ?_;have a:=xT;have w1:=iv c hi;have w2:=iv d hj;have p2:(bM c).plain=true:=by simp [bM,di,AV.plain,ai]
 have p3:(bM d).plain=true:=by simp [bM,di,AV.plain,ai]
 unfold maxLen at hlang;by_cases hall:gr c=true∧gr d=true∧lang.length≤10
 case neg=>
  unfold bM di at*
  generalize au c.aa=L1 at*
  generalize c.av.map cM=L2 at*
  generalize c.an.map bk=L3 at*
  generalize au d.aa=M1 at*
  generalize d.av.map cM=M2 at*
  generalize d.an.map bk=M3 at*
  cases h1:gr c with
  | false=>rw [h1] at w1;simp (maxSteps:=9^9) (disch:=omega) [-List.map_replicate,-List.map_set,-List.getD_eq_getElem?_getD,-getElem?_pos,-getElem?_neg,om,Oa,a,w1,p2,p3]
  | true=>
   rw [h1] at w1;cases h2:gr d with
   | false=>rw [h2] at w2;simp (maxSteps:=9^9) (disch:=omega) [-List.map_replicate,-List.map_set,-List.getD_eq_getElem?_getD,-getElem?_pos,-getElem?_neg,om,Oa,a,w1,w2,p2,p3]
   | true=>rw [h2] at w2;have h3: ¬ lang.length≤10:=fun h3=>hall ⟨h1,h2,h3⟩;simp (maxSteps:=9^9) (disch:=omega) [-List.map_replicate,-List.map_set,-List.getD_eq_getElem?_getD,-getElem?_pos,-getElem?_neg,om,Oa,a,w1,w2,h3,p2,p3]
 obtain ⟨h1,h2,h3⟩:=hall;rw [h1] at w1;rw [h2] at w2;have hc:=lO hi h1;have hd:=lO hj h2;have hsc:=iw c;have hsd:=iw d;have c1:=fU c hc;have c2:=fU d hd;have p4:(bM (du c)).plain=true:=by simp [bM,di,AV.plain,ai]
 have p5:(bM (du d)).plain=true:=by simp [bM,di,AV.plain,ai]
 by_cases hE:(ay Lib.itoa esc c root lang unit).2=0
 case neg=>
  obtain ⟨n,z,w4⟩:=nR (du c) (cU hc) root unit lang (by rw [hsc.reads];exact hE);rw [hsc.reads] at w4;have hE2:((ay Lib.itoa esc c root lang unit).2 !=0)=true:=by simpa using hE
  generalize (ay Lib.itoa esc c root lang unit).2=e at*
  unfold bM di at*
  generalize au (du c).aa=K1 at*
  generalize (du c).av.map cM=K2 at*
  generalize (du c).an.map bk=K3 at*
  generalize au c.aa=L1 at*
  generalize c.av.map cM=L2 at*
  generalize c.an.map bk=L3 at*
  generalize au d.aa=M1 at*
  generalize d.av.map cM=M2 at*
  generalize d.an.map bk=M3 at*
  clear hsc hsd c2 p5;simp (maxSteps:=9^9) (disch:=omega) [-List.map_replicate,-List.map_set,-List.getD_eq_getElem?_getD,-getElem?_pos,-getElem?_neg,om,Oa,a,w1,w2,h3,c1,w4,p2,p3,p4,hE,hE2,af]
 have w4:=kR (du c) (cU hc) root unit lang (by rw [hsc.reads];exact hE);rw [hsc.reads] at w4;have w5:=iJ (du d) (cU hd) root lang none 3 (ay Lib.itoa esc c root lang unit).1 (fun _=>rfl) (kS c root unit lang);rw [hsd.aS] at w5;have p6:=dc (ay Lib.itoa esc c root lang unit).1;cases hst:eU (aS Lib.itoa esc d lang root) (ay Lib.itoa esc c root lang unit).1 with
 | true=>
  rw [hst] at w5;generalize br (ay Lib.itoa esc c root lang unit).1=RD at*
  unfold bM di at*
  generalize au (du c).aa=K1 at*
  generalize (du c).av.map cM=K2 at*
  generalize (du c).an.map bk=K3 at*
  generalize au (du d).aa=J1 at*
  generalize (du d).av.map cM=J2 at*
  generalize (du d).an.map bk=J3 at*
  generalize au c.aa=L1 at*
  generalize c.av.map cM=L2 at*
  generalize c.an.map bk=L3 at*
  generalize au d.aa=M1 at*
  generalize d.av.map cM=M2 at*
  generalize d.an.map bk=M3 at*
  clear hsc hsd hst;simp (maxSteps:=9^9) (disch:=omega) [-List.map_replicate,-List.map_set,-List.getD_eq_getElem?_getD,-getElem?_pos,-getElem?_neg,om,Oa,a,w1,w2,h3,c1,c2,w4,w5,p2,p3,p4,p5,p6,af]
 | false=>
  rw [hst] at w5;obtain ⟨e1,e2,s,f1,f2⟩:=Nw lN EP hE hst;have w6:=gh (du c) (cU hc) root lang;rw [hsc.comp,hsc.Tx,if_pos e1,e1] at w6;have w7:=gh (du d) (cU hd) root lang;rw [hsd.comp,hsd.Tx,if_pos e2,e2] at w7;unfold E1 at w6 w7
  have hlen: ∀x:Ct,(dP Lib.itoa x root lang).length≤x.an.length:=fun x=>by
   unfold dP;rw [List.length_map];exact (jr Lib.itoa root x.an ⟨[], []⟩).1
  have hl1:=hlen c;have hl2:=hlen d;have hcs:=hc.sl;have hds:=hd.sl;obtain ⟨i,i1,i2,i3⟩:=pt f1;obtain ⟨k,k1,k2,k3⟩:=pt f2
  have hsn:s.nodes.length<1000000:=by have hm:=List.mem_of_find?_eq_some f1;unfold dP at hm;obtain ⟨x,hx,rfl⟩:=List.mem_map.1 hm;exact BU (cE (dt (cL e1)).1) _ ((jr Lib.itoa root c.an ⟨[], []⟩).2 _ hx)
  have w8:=BV (some s) (fun s' hs=>by cases hs;exact hsn);have pp: ∀l:List tf,ai (l.map cN)=true:=fun l=>eK (fun x=>by simp [cN,AV.plain,iK]) _;have pa:=pp (dP Lib.itoa c root lang);have pb:=pp (dP Lib.itoa d root lang)
  have hB: ∀(A C:List AV) (hA:ai A=true) (hC:ai C=true),shut 5 [.var 26 (di c),.var 26 (di d),.var 3 [.int .i64 unit],.var 41 [.int .i64 root,.str lang,.ah none 3 A],.var 41 [.int .i64 root,.str lang,.ah none 3 C]]=true:=fun A C hA hC=>by
   simp [shut,aw,AV.under,di]
  have w9:=BW none 3 (dP Lib.itoa c root lang) (fun _=>rfl) (by omega) 22 ⟨rfl,rfl,rfl,rfl⟩ 2 [.var 26 (di c),.var 26 (di d),.var 3 [.int .i64 unit],.var 41 [.int .i64 root,.str lang,.ah none 3 ((dP Lib.itoa c root lang).map cN)],.var 41 [.int .i64 root,.str lang,.ah none 3 ((dP Lib.itoa d root lang).map cN)]] unit (fun s=>Ly s unit _ _ _ _ _ _ _ _ _ _ _ _ _ _ _ _ _ _ _ _ _ _ _ _ _ _ _ _) (by simp) (hB _ _ pa pb);have w10:=BW none 3 (dP Lib.itoa d root lang) (fun _=>rfl) (by omega) 22 ⟨rfl,rfl,rfl,rfl⟩ 2 [.var 26 (di c),.var 26 (di d),.var 3 [.int .i64 unit],.var 41 [.int .i64 root,.str lang,.ah none 3 ((dP Lib.itoa c root lang).map cN)],.var 41 [.int .i64 root,.str lang,.ah none 3 ((dP Lib.itoa d root lang).map cN)]] unit (fun s=>Ly s unit _ _ _ _ _ _ _ _ _ _ _ _ _ _ _ _ _ _ _ _ _ _ _ _ _ _ _ _) (by simp) (hB _ _ pa pb);rw [zf,i1] at w9;rw [zf,k1] at w10;simp only [Nat.zero_add] at w9 w10;have g1:((dP Lib.itoa c root lang).map cN)[i]?=some (.agg [.int .i64 s.unit,.str s.num,.ah none 3 (s.nodes.map gO)]):=by simp [i3];rfl
  have g2:((dP Lib.itoa d root lang).map cN)[k]?=some (.agg [.int .i64 s.unit,.str s.num,.ah none 3 (s.nodes.map gO)]):=by simp [k3];rfl
  have hn1:((dP Lib.itoa c root lang).map cN).length=(dP Lib.itoa c root lang).length:=by simp
  have hn2:((dP Lib.itoa d root lang).map cN).length=(dP Lib.itoa d root lang).length:=by simp
  simp only [Ob,cN] at w8;have p7:=iK s.nodes;generalize s.nodes.map gO=NS at*
  generalize (dP Lib.itoa c root lang).length=na at*
  generalize (dP Lib.itoa d root lang).length=nb at*
  generalize (dP Lib.itoa c root lang).map _=AC at*
  generalize (dP Lib.itoa d root lang).map _=AD at*
  generalize br (ay Lib.itoa esc c root lang unit).1=RD at*
  unfold bM di at*
  generalize au (du c).aa=K1 at*
  generalize (du c).av.map cM=K2 at*
  generalize (du c).an.map bk=K3 at*
  generalize au (du d).aa=J1 at*
  generalize (du d).av.map cM=J2 at*
  generalize (du d).an.map bk=J3 at*
  generalize au c.aa=L1 at*
  generalize c.av.map cM=L2 at*
  generalize c.an.map bk=L3 at*
  generalize au d.aa=M1 at*
  generalize d.av.map cM=M2 at*
  generalize d.an.map bk=M3 at*
  clear hsc hsd hst pp hlen f1 f2 hB;simp (maxSteps:=9^9) (disch:=omega) [-List.map_replicate,-List.map_set,-List.getD_eq_getElem?_getD,-getElem?_pos,-getElem?_neg,om,Oa,a,w1,w2,h3,c1,c2,w4,w5,w6,w7,w8,w9,w10,g1,g2,hn1,hn2,i2,k2,p2,p3,p4,p5,p6,p7,pa,pb,af]
theorem IG {xs:List AV} (h:eh Tryz.prog [26,26,3,3,9] xs):ar cfg 5 xs []=some (.bool true, []):=by obtain ⟨c,r,rfl,hc,h⟩:=ic h;obtain ⟨d,r,rfl,hd,h⟩:=ic h;obtain ⟨root,r,rfl,_,_,h⟩:=eW h;obtain ⟨unit,r,rfl,_,_,h⟩:=eW h;obtain ⟨lang,r,e,hl,h9⟩:=iz h;subst e;obtain rfl:r= []:=h9;exact Gq c d hc hd root unit lang hl
end Go.Proofs.YtfnkchadeaedlaaGreatDoor
