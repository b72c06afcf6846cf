/-
 The law DependDiffers.
-/
import Derived.Test.YtfnkchadeaedlaaGreatDoorLwEnoM
import Derived.Test.YtfnkchadeaedlaaGreatDoorLsM
set_option linter.all false
namespace Go.Proofs.YtfnkchadeaedlaaGreatDoor
open Go.Am
set_option maxRecDepth 10000
set_option maxHeartbeats 8000000
theorem zd {S:List Cell} (h:S.Nodup) {i:Nat} (hi:i<S.length):S[i]∉S.take i:=by intro hm;obtain ⟨j,hj,he⟩:=List.getElem_of_mem hm;rw [List.length_take] at hj;rw [List.getElem_take] at he;have:=(List.getElem_inj h).1 he;omega
theorem xW (S:List Cell) (i:Nat):(ca S).take i=ca (S.take i):=by simp [ca]
theorem BT (c d:Ct) (hi:c.B1) (hj:d.B1) (root unit:Int) (lang:ae) (hlang:lang.length≤maxLen):ar cfg 6 [bM c,bM d,.int .i64 root,.int .i64 unit,.str lang] []=some (.bool true, []):=by
 refine ad Ux TY ?_;have a:=xT;have w1:=iv c hi;have w2:=iv d hj;have p2:(bM c).plain=true:=by simp [bM,di,AV.plain,ai]
 have p3:(bM d).plain=true:=by simp [bM,di,AV.plain,ai]
 unfold maxLen at hlang;by_cases hall:gr c=true∧gr d=true∧lang.length≤10
 case neg=>
  unfold bM di at*
  generalize au c.aa=L1 at*
  generalize c.av.map cM=L2 at*
  generalize c.an.map bk=L3 at*
  generalize au d.aa=M1 at*
  generalize d.av.map cM=M2 at*
  generalize d.an.map bk=M3 at*
  cases h1:gr c with
  | false=>rw [h1] at w1;simp (maxSteps:=9^9) (disch:=omega) [-List.map_replicate,-List.map_set,-List.getD_eq_getElem?_getD,-getElem?_pos,-getElem?_neg,om,Pq,a,w1,p2,p3]
  | true=>
   rw [h1] at w1;cases h2:gr d with
   | false=>rw [h2] at w2;simp (maxSteps:=9^9) (disch:=omega) [-List.map_replicate,-List.map_set,-List.getD_eq_getElem?_getD,-getElem?_pos,-getElem?_neg,om,Pq,a,w1,w2,p2,p3]
   | true=>rw [h2] at w2;have h3: ¬ lang.length≤10:=fun h3=>hall ⟨h1,h2,h3⟩;simp (maxSteps:=9^9) (disch:=omega) [-List.map_replicate,-List.map_set,-List.getD_eq_getElem?_getD,-getElem?_pos,-getElem?_neg,om,Pq,a,w1,w2,h3,p2,p3]
 obtain ⟨h1,h2,h3⟩:=hall;rw [h1] at w1;rw [h2] at w2;have hc:=lO hi h1;have hd:=lO hj h2;have hsc:=iw c;have hsd:=iw d;have c1:=fU c hc;have c2:=fU d hd;have p4:(bM (du c)).plain=true:=by simp [bM,di,AV.plain,ai]
 have p5:(bM (du d)).plain=true:=by simp [bM,di,AV.plain,ai]
 by_cases hE:(ay Lib.itoa esc c root lang unit).2=0
 case neg=>
  obtain ⟨n,z,w4⟩:=nR (du c) (cU hc) root unit lang (by rw [hsc.reads];exact hE);rw [hsc.reads] at w4;have hE2:((ay Lib.itoa esc c root lang unit).2 !=0)=true:=by simpa using hE
  generalize (ay Lib.itoa esc c root lang unit).2=e at*
  unfold bM di at*
  generalize au (du c).aa=K1 at*
  generalize (du c).av.map cM=K2 at*
  generalize (du c).an.map bk=K3 at*
  generalize au c.aa=L1 at*
  generalize c.av.map cM=L2 at*
  generalize c.an.map bk=L3 at*
  generalize au d.aa=M1 at*
  generalize d.av.map cM=M2 at*
  generalize d.an.map bk=M3 at*
  clear hsc hsd c2 p5;simp (maxSteps:=9^9) (disch:=omega) [-List.map_replicate,-List.map_set,-List.getD_eq_getElem?_getD,-getElem?_pos,-getElem?_neg,om,Pq,a,w1,w2,h3,c1,w4,p2,p3,p4,hE,hE2,af]
 have w4:=kR (du c) (cU hc) root unit lang (by rw [hsc.reads];exact hE);rw [hsc.reads] at w4;have hlen:=kS c root unit lang;obtain ⟨S,hS,m1,m2,hr,hne⟩:=mX hE;have w5:=iJ (du d) (cU hd) root lang none 3 (ay Lib.itoa esc c root lang unit).1 (fun _=>rfl) hlen;rw [hsd.aS,hr,y4] at w5;rw [hr] at w4 hlen;rw [List.length_map] at hlen;have p6:=dc (S.map fun z=>(z,aS Lib.itoa esc c lang root z));have w6:=kQ (du c) (du d) (cU hc) (cU hd) root lang none 2 S (fun _=>rfl) hlen;rw [hsc.aS,hsd.aS] at w6;have w7:=kQ (du c) c (cU hc) hc root lang none 2 S (fun _=>rfl) hlen;rw [hsc.aS,vC] at w7;have w7':=kQ (du c) (du c) (cU hc) (cU hc) root lang none 2 S (fun _=>rfl) hlen;rw [hsc.aS,vC] at w7';obtain ⟨sub,nod⟩:=Dj (aS Lib.itoa esc c lang root) (aS Lib.itoa esc d lang root) hS;obtain ⟨D,hD⟩: ∃D,D=cv (aS Lib.itoa esc c lang root) (aS Lib.itoa esc d lang root) S:=⟨_,rfl⟩
 have hDl:D.length<1000000:=by have:=List.length_filter_le (fun x=>decide (aS Lib.itoa esc c lang root x≠aS Lib.itoa esc d lang root x)) S;rw [hD];unfold cv;omega
 rw [←hD] at w5 w6 sub nod;clear hD
 have w8: ∀k (h:k<D.length),ar cfg 25 [.ah none 2 (ca S),mY D[k]] []=some (.bool true, []):=fun k h=>by
  have:=EO none 2 S (fun _=>rfl) hlen D[k];rw [decide_eq_true (sub _ (List.getElem_mem h))] at this;exact this
 have w9: ∀k (h:k<D.length),ar cfg 25 [.ah none 2 ((ca D).take k),mY D[k]] []=some (.bool false, []):=fun k h=>by
  rw [xW];have:=EO none 2 (D.take k) (fun _=>rfl) (by rw [List.length_take];omega) D[k];rw [decide_eq_false (zd nod h)] at this;exact this
 have p7:=fo S;have p8:=fo D;have hSl: ∀k,k≤S.length→(ca (S.take k)).length=k:=fun k h=>by simp [ca];omega
 have hSt: ∀k (h:k<S.length),ca (S.take (k+1))=ca (S.take k)++ [.agg [.int .i64 S[k].1,.int .i64 S[k].2]]:=fun k h=>by
  rw [List.take_succ_eq_append_getElem h];unfold ca;rw [List.map_append];rfl
 have hEl:(br (S.map fun z=>(z,aS Lib.itoa esc c lang root z))).length=S.length:=by simp [br]
 have hEg: ∀k (h:k<S.length),(br (S.map fun z=>(z,aS Lib.itoa esc c lang root z)))[k]?=some (.agg [.int .i64 S[k].1,.int .i64 S[k].2,.str (aS Lib.itoa esc c lang root S[k])]):=fun k h=>by
  simp [br,h];rfl
 have hDn:(ca D).length=D.length:=by simp [ca]
 have hDg: ∀k (h:k<D.length),(ca D)[k]?=some (.agg [.int .i64 D[k].1,.int .i64 D[k].2]):=fun k h=>get_map _ _ h;have hS0:ca (S.take S.length)=ca S:=by rw [List.take_length]
 clear hS m1 m2 hr hne sub nod hsc hsd hE;generalize br (S.map fun z=>(z,aS Lib.itoa esc c lang root z))=E at*
 generalize aS Lib.itoa esc c lang root=val at*
 unfold bM di at*
 generalize au (du c).aa=K1 at*
 generalize (du c).av.map cM=K2 at*
 generalize (du c).an.map bk=K3 at*
 generalize au (du d).aa=J1 at*
 generalize (du d).av.map cM=J2 at*
 generalize (du d).an.map bk=J3 at*
 generalize au c.aa=L1 at*
 generalize c.av.map cM=L2 at*
 generalize c.an.map bk=L3 at*
 generalize au d.aa=M1 at*
 generalize d.av.map cM=M2 at*
 generalize d.an.map bk=M3 at*
 simp (maxSteps:=9^9) (disch:=omega) [-List.map_replicate,-List.map_set,-List.getD_eq_getElem?_getD,-getElem?_pos,-getElem?_neg,om,Pq,a,w1,w2,h3,c1,w4,p2,p3,p4,p6,hEl,af];refine Wp.bw (fun (i:Nat)=>S.length-i) (fun i=> [none,none,some (.int .i64 root),none,some (.str lang),some (.ptr 0 0),some (.ptr 1 0),none,some (.ah none 3 E),none,some (.az 2 i),none,none,none,none,none,none,none,none,none,none,none,none,some (.ah none 3 E),some (.int .i64 S.length),some (.int .i64 i),none,none,none,none,none,none,none,none,none,none,none,none,none,none,none,none,none,none,none,none,none,none]) (fun i=> [.var 26 [.ah c.ln c.lz L1,.ah c.bn c.bz L2,.ah c.sn c.sz L3],.var 26 [.ah d.ln d.lz M1,.ah d.bn d.bz M2,.ah d.sn d.sz M3],.sl ⟨false,some 28,none⟩ 2 (ca (S.take i))]) (fun i=>i≤S.length) ?_ 0 (by omega) (by simp) (by simp [ca]);rintro i hil;have hci:=hSl i hil;by_cases q1:i<S.length
 ·have hg:=hEg i q1;have ht:=hSt i q1;clear c1 c2 w1 w2 w4 w5 w6 w7 w7' w8 w9 hEg hDg hSt hSl a;generalize S[i]=x at*
  generalize val x=v at*
  generalize ca (S.take i)=CI at*
  simp (maxSteps:=9^9) (disch:=omega) [-List.map_replicate,-List.map_set,-List.getD_eq_getElem?_getD,-getElem?_pos,-getElem?_neg,om,q1,hg,hEl,hci,af];exact ⟨i+1,by omega,by omega,by simp,by rw [ht]⟩
 ·obtain rfl:i=S.length:=by omega
  rw [hS0] at hci⊢;clear hEg hSt hSl hS0;generalize ca S=SA at*
  simp (maxSteps:=9^9) (disch:=omega) [-List.map_replicate,-List.map_set,-List.getD_eq_getElem?_getD,-getElem?_pos,-getElem?_neg,om,q1,hEl,c1,c2,w6,p4,p5,p7,p8,hDn];clear q1;refine Wp.bw (fun (x:Nat×Option AV×Option AV)=>D.length-x.1) (fun x=> [none,none,some (.int .i64 root),none,some (.str lang),some (.ptr 0 0),some (.ptr 1 0),none,some (.ah none 3 E),none,some (.az 2 S.length),none,some (.ah none 2 (ca D)),none,none,none,none,none,none,none,none,none,none,none,none,none,none,none,none,none,none,none,none,some (.ah none 2 (ca D)),some (.int .i64 D.length),some (.int .i64 x.1),none,none,none,x.2.1,x.2.2,none,none,none,none,none,none,none]) (fun x=> [.var 26 [.ah c.ln c.lz L1,.ah c.bn c.bz L2,.ah c.sn c.sz L3],.var 26 [.ah d.ln d.lz M1,.ah d.bn d.bz M2,.ah d.sn d.sz M3],.sl ⟨true,some 28,none⟩ 2 SA]) (fun x=>x.1≤D.length) ?_ (0,none,none) (by simp) (by simp) (by simp);rintro ⟨j,o1,o2⟩ hjl;simp only at hjl⊢;by_cases q2:j<D.length
  ·have hg:=hDg j q2;have k1:=w8 j q2;have k2:=w9 j q2;unfold mY at k1 k2;clear c1 c2 w1 w2 w4 w5 w6 w7 w7' w8 w9 hDg a;generalize D[j]=x at*
   generalize hDA:ca D=DA at*
   have p9:ai (DA.take j)=true:=by rw [←hDA,xW];exact fo _
   simp (maxSteps:=9^9) (disch:=omega) [-List.map_replicate,-List.map_set,-List.getD_eq_getElem?_getD,-getElem?_pos,-getElem?_neg,om,q2,hg,hci,hDn,k1,k2,p7,p8,p9,af];exact ⟨j+1,by omega,by omega,by simp⟩
  ·generalize ca D=DA at*
   have hlt:(decide (0<(D.length:Int)))=decide (0<D.length):=by rw [Bool.eq_iff_iff];simp only [decide_eq_true_eq];omega
   simp (maxSteps:=9^9) (disch:=omega) [-List.map_replicate,-List.map_set,-List.getD_eq_getElem?_getD,-getElem?_pos,-getElem?_neg,om,q2,hci,hDn,c1,c2,w5,w7',p4,p5,p6,p7,p8,hlt];rfl
theorem DG {xs:List AV} (h:eh Tryz.prog [26,26,3,3,9] xs):ar cfg 6 xs []=some (.bool true, []):=by obtain ⟨c,r,rfl,hc,h⟩:=ic h;obtain ⟨d,r,rfl,hd,h⟩:=ic h;obtain ⟨root,r,rfl,_,_,h⟩:=eW h;obtain ⟨unit,r,rfl,_,_,h⟩:=eW h;obtain ⟨lang,r,e,hl,h9⟩:=iz h;subst e;obtain rfl:r= []:=h9;exact BT c d hc hd root unit lang hl
end Go.Proofs.YtfnkchadeaedlaaGreatDoor
