/-
 The law DependReads.
-/
import Derived.Test.YtfnkchadeaedlaaGreatDoorLwEnoM
set_option linter.all false
namespace Go.Proofs.YtfnkchadeaedlaaGreatDoor
open Go.Am
set_option maxRecDepth 10000
set_option maxHeartbeats 8000000
def ow (p:Cell×ae→Bool):List (Cell×ae)→Nat→Int
 | [],_=> -1
 | s::r,i=>if p s=true then (i:Int) else ow p r (i+1)
theorem xY (p:Cell×ae→Bool): ∀(l:List (Cell×ae)) (i:Nat),0≤ow p l i↔l.any p=true
 | [],i=>by simp [ow]
 | x::r,i=>by
  unfold ow;by_cases h:p x=true
  ·rw [if_pos h,List.any_cons,h];simp
  ·rw [if_neg h,xY p r (i+1),List.any_cons];simp [h]
theorem IH (nl:Option Bool) (z:Nat) (l:List (Cell×ae)) (hz:l≠ []→z=3) (hl:l.length<1000000) (f:FuncId) (hns:wq f) (j k:Nat) (bs:List ab) (p:Cell×ae→Bool)
  (hf: ∀s:Cell×ae,ar cfg f [lM s,.ptr j 0,.ptr k 0] bs=some (.bool (p s),bs)) (hj:j<bs.length) (hk:k<bs.length) (hsh:shut bs.length bs=true):
  ar cfg 70 [.ah nl z (br l),.fn f [] [.ptr j 0,.ptr k 0]] bs=some (.int .i64 (ow p l 0),bs):=by
 refine ad T3 Si ?_;have hLl:(br l).length=l.length:=by simp [br]
 have hE: ∀i (h:i<l.length),(br l)[i]?=some (lM l[i]):=fun i h=>get_map _ _ h;generalize br l=E at*
 obtain ⟨n1,n2,n3,n4⟩:=hns;simp only [exts,tc,Gs,jX] at n1 n2 n3 n4;have hm:=shut_map (Nat.le_refl _) hsh;simp (maxSteps:=9^9) (disch:=omega) [-List.map_replicate,-List.map_set,-List.getD_eq_getElem?_getD,-getElem?_pos,-getElem?_neg,om,Sj,hLl];refine Wp.bw (fun (i:Nat)=>l.length-i) (fun i=> [some (.ah nl z E),some (.fn f [] [.ptr j 0,.ptr k 0]),none,none,some (.int .i64 l.length),some (.int .i64 i),none,none]) (fun _=>bs) (fun i=>ow p l 0=ow p (l.drop i) i∧i≤l.length) ?_ 0 ⟨by simp,by omega⟩ (by simp) rfl;rintro i ⟨hi,hil⟩;rw [hi];clear hi;by_cases h1:i<l.length
 ·have hg:=hE i h1;have hs:=hf l[i];obtain rfl:=hz (ne_of_lt h1);rw [List.drop_eq_getElem_cons h1];simp only [ow];generalize l[i]=x at*
  obtain ⟨⟨x1,x2⟩,t⟩:=x;unfold lM at hg hs;simp only at hg hs;generalize p ((x1,x2),t)=px at*
  clear hE hf;cases px with
  | true=>simp (maxSteps:=9^9) (disch:=omega) [-List.map_replicate,-List.map_set,-List.getD_eq_getElem?_getD,-getElem?_pos,-getElem?_neg,om,h1,hg,hs,n1,n2,n3,n4,hj,hk,hm]
  | false=>rw [if_neg (by simp)];simp (maxSteps:=9^9) (disch:=omega) [-List.map_replicate,-List.map_set,-List.getD_eq_getElem?_getD,-getElem?_pos,-getElem?_neg,om,h1,hg,hs,n1,n2,n3,n4,hj,hk,hm];exact ⟨i+1,⟨rfl,by omega⟩,by omega,by simp⟩
 ·rw [List.drop_eq_nil_of_le (by omega)];simp (maxSteps:=9^9) (disch:=omega) [-List.map_replicate,-List.map_set,-List.getD_eq_getElem?_getD,-getElem?_pos,-getElem?_neg,om,h1,ow]
theorem II (nl:Option Bool) (z:Nat) (l:List (Cell×ae)) (hz:l≠ []→z=3) (hl:l.length<1000000) (f:FuncId) (hns:wq f) (j k:Nat) (bs:List ab) (p:Cell×ae→Bool)
  (hf: ∀s:Cell×ae,ar cfg f [lM s,.ptr j 0,.ptr k 0] bs=some (.bool (p s),bs)) (hj:j<bs.length) (hk:k<bs.length) (hsh:shut bs.length bs=true):
  ar cfg 27 [.ah nl z (br l),.fn f [] [.ptr j 0,.ptr k 0]] bs=some (.bool (l.any p),bs):=by
 refine ad T4 Sk ?_;have h:=IH nl z l hz hl f hns j k bs p hf hj hk hsh;have hm:=shut_map (Nat.le_refl _) hsh;have hpl:=dc l;have hd:=xY p l 0;generalize br l=E at*
 generalize ow p l 0=q at*
 obtain ⟨n1,n2,n3,n4⟩:=hns;simp only [exts,tc,Gs,jX] at n1 n2 n3 n4;clear hf;cases hb:l.any p with
 | true=>have hq:=hd.2 hb;simp (maxSteps:=9^9) (disch:=omega) [-List.map_replicate,-List.map_set,-List.getD_eq_getElem?_getD,-getElem?_pos,-getElem?_neg,om,Oc,h,hpl,hq,hj,hk,hm]
 | false=>
  have hq: ¬ 0≤q:=fun h=>by rw [hd.1 h] at hb;cases hb
  simp (maxSteps:=9^9) (disch:=omega) [-List.map_replicate,-List.map_set,-List.getD_eq_getElem?_getD,-getElem?_pos,-getElem?_neg,om,Oc,h,hpl,hq,hj,hk,hm]
theorem Ku (n1 n2 n3:Option Bool) (z1 z2 z3:Nat) (e1 e2 e3:List AV) (u k:Int) (R:List AV) (s:Cell×ae):
  ar cfg 28 [lM s,.ptr 3 0,.ptr 1 0] [.var 26 [.ah n1 z1 e1,.ah n2 z2 e2,.ah n3 z3 e3],.var 3 [.int .i64 u],.var 31 [.ah none 3 R],.var 3 [.int .i64 k]]
   =some (.bool (decide (s.1=(k,u))), [.var 26 [.ah n1 z1 e1,.ah n2 z2 e2,.ah n3 z3 e3],.var 3 [.int .i64 u],.var 31 [.ah none 3 R],.var 3 [.int .i64 k]]):=by
 refine ad T5 Sl ?_;obtain ⟨⟨x1,x2⟩,t⟩:=s;unfold lM
 have e:decide (((x1,x2):Cell)=(k,u))=(x1==k&&x2==u):=by rw [Bool.eq_iff_iff];simp
 simp only at e⊢;rw [e];simp (maxSteps:=9^9) (disch:=omega) [-List.map_replicate,-List.map_set,-List.getD_eq_getElem?_getD,-getElem?_pos,-getElem?_neg,om,Sm,af]
theorem Kv (n1 n2 n3:Option Bool) (z1 z2 z3:Nat) (e1 e2 e3:List AV) (u k:Int) (l:List (Cell×ae)) (hl:l.length<1000000):
  ar cfg 26 [.int .i64 k,.ptr 2 0,.ptr 1 0] [.var 26 [.ah n1 z1 e1,.ah n2 z2 e2,.ah n3 z3 e3],.var 3 [.int .i64 u],.var 31 [.ah none 3 (br l)]]
   =some (.bool (l.any fun s=>decide (s.1=(k,u))), [.var 26 [.ah n1 z1 e1,.ah n2 z2 e2,.ah n3 z3 e3],.var 3 [.int .i64 u],.var 31 [.ah none 3 (br l)]]):=by
 refine ad T6 Sn ?_;have h:=II none 3 l (fun _=>rfl) hl 28 ⟨rfl,rfl,rfl,rfl⟩ 3 1 _ _ (fun s=>Ku n1 n2 n3 z1 z2 z3 e1 e2 e3 u k (br l) s) (by simp) (by simp) (by simp [shut,aw,AV.under]);have hpl:=dc l;generalize br l=R at*
 simp (maxSteps:=9^9) (disch:=omega) [-List.map_replicate,-List.map_set,-List.getD_eq_getElem?_getD,-getElem?_pos,-getElem?_neg,om,Sp,h,hpl]
theorem xZ: ∀(k:Nat) (S:List Cell),fD S→fD (S.drop k)
 | 0,S,h=>h
 | k+1, [],h=>trivial
 | k+1,x::r,h=>xZ k r h.2
theorem BX {S:List Cell} {f:Cell→ae} {x:Cell} (h:x∈S):((S.map fun z=>(z,f z)).any fun s=>decide (s.1=x))=true:=by rw [List.any_eq_true];exact ⟨(x,f x),List.mem_map.2 ⟨x,h,rfl⟩,by simp⟩
theorem DI (c:Ct) (hi:c.B1) (root unit:Int) (lang:ae) (hlang:lang.length≤maxLen):ar cfg 7 [bM c,.int .i64 root,.int .i64 unit,.str lang] []=some (.bool true, []):=by
 refine ad UA T7 ?_;have a:=xT;have w1:=iv c hi;have p2:(bM c).plain=true:=by simp [bM,di,AV.plain,ai]
 unfold maxLen at hlang;by_cases hall:gr c=true∧lang.length≤10
 case neg=>
  unfold bM di at*
  generalize au c.aa=L1 at*
  generalize c.av.map cM=L2 at*
  generalize c.an.map bk=L3 at*
  cases h1:gr c with
  | false=>rw [h1] at w1;simp (maxSteps:=9^9) (disch:=omega) [-List.map_replicate,-List.map_set,-List.getD_eq_getElem?_getD,-getElem?_pos,-getElem?_neg,om,Sq,a,w1,p2]
  | true=>rw [h1] at w1;have h3: ¬ lang.length≤10:=fun h3=>hall ⟨h1,h3⟩;simp (maxSteps:=9^9) (disch:=omega) [-List.map_replicate,-List.map_set,-List.getD_eq_getElem?_getD,-getElem?_pos,-getElem?_neg,om,Sq,a,w1,h3,p2]
 obtain ⟨h1,h3⟩:=hall;rw [h1] at w1;have hc:=lO hi h1;have hs:=iw c;have w2:=fU c hc;have p3:(bM (du c)).plain=true:=by simp [bM,di,AV.plain,ai]
 by_cases hE:(ay Lib.itoa esc c root lang unit).2=0
 case neg=>
  obtain ⟨n,z,w4⟩:=nR (du c) (cU hc) root unit lang (by rw [hs.reads];exact hE);rw [hs.reads] at w4;have hE2:((ay Lib.itoa esc c root lang unit).2 !=0)=true:=by simpa using hE
  generalize (ay Lib.itoa esc c root lang unit).2=e at*
  unfold bM di at*
  generalize au (du c).aa=K1 at*
  generalize (du c).av.map cM=K2 at*
  generalize (du c).an.map bk=K3 at*
  generalize au c.aa=L1 at*
  generalize c.av.map cM=L2 at*
  generalize c.an.map bk=L3 at*
  clear hs;simp (maxSteps:=9^9) (disch:=omega) [-List.map_replicate,-List.map_set,-List.getD_eq_getElem?_getD,-getElem?_pos,-getElem?_neg,om,Sq,a,w1,w2,h3,w4,p2,p3,hE,hE2,af]
 have w4:=kR (du c) (cU hc) root unit lang (by rw [hs.reads];exact hE);rw [hs.reads] at w4;have hlen:=kS c root unit lang;obtain ⟨S,hS,m1,m2,hr,hne⟩:=mX hE;have w5:=iJ (du c) (cU hc) root lang none 3 (ay Lib.itoa esc c root lang unit).1 (fun _=>rfl) hlen;rw [hs.aS,hr,FX] at w5;rw [hr] at w4 hlen;have w6:=fun x:Cell=>nO c hc root lang x;simp only [←vM] at w6;have p4:=dc (S.map fun z=>(z,aS Lib.itoa esc c lang root z));have b1:=BX (f:=aS Lib.itoa esc c lang root) m1;have b2:=BX (f:=aS Lib.itoa esc c lang root) m2;have w7:=fun (k:Int)=>Kv c.ln c.bn c.sn c.lz c.bz c.sz (au c.aa) (c.av.map cM) (c.an.map bk) unit k (S.map fun z=>(z,aS Lib.itoa esc c lang root z)) hlen;have w8:=w7 1;have w9:=w7 2;rw [b1] at w8;rw [b2] at w9;clear w7 b1 b2 m1 m2 hs hr hE;rw [List.length_map] at hlen
 have hnx: ∀k (h:k+1<S.length) (h0:k<S.length),fc (S[k]'h0) (S[k+1]'h)=true:=fun k h h0=>by
  have h5:=List.drop_eq_getElem_cons h0;have h6:=List.drop_eq_getElem_cons h;have h7:=xZ k S hS;rw [h5] at h7;exact h7.1 _ (by rw [h6];exact List.mem_cons_self ..)
 have hEl:(br (S.map fun z=>(z,aS Lib.itoa esc c lang root z))).length=S.length:=by simp [br]
 have hEg: ∀k (h:k<S.length),(br (S.map fun z=>(z,aS Lib.itoa esc c lang root z)))[k]?=some (.agg [.int .i64 S[k].1,.int .i64 S[k].2,.str (aS Lib.itoa esc c lang root S[k])]):=fun k h=>by
  simp [br,h];rfl
 have hval: ∀k (h:k<S.length),aS Lib.itoa esc c lang root S[k]≠ []:=fun k h=>hne _ (List.getElem_mem h);generalize br (S.map fun z=>(z,aS Lib.itoa esc c lang root z))=E at*
 generalize aS Lib.itoa esc c lang root=val at*
 unfold bM di at*
 generalize au (du c).aa=K1 at*
 generalize (du c).av.map cM=K2 at*
 generalize (du c).an.map bk=K3 at*
 generalize au c.aa=L1 at*
 generalize c.av.map cM=L2 at*
 generalize c.an.map bk=L3 at*
 simp (maxSteps:=9^9) (disch:=omega) [-List.map_replicate,-List.map_set,-List.getD_eq_getElem?_getD,-getElem?_pos,-getElem?_neg,om,Sq,a,w1,h3,w2,w4,p2,p3,p4,hEl,af];refine Wp.bw (fun (x:Nat×Option AV)=>S.length-x.1) (fun x=> [none,some (.int .i64 root),none,some (.str lang),some (.ptr 0 0),some (.ptr 1 0),none,some (.ptr 2 0),none,none,none,none,none,none,none,none,none,none,none,some (.ah none 3 E),some (.int .i64 S.length),some (.int .i64 x.1),none,none,none,x.2,none,none,none,none,none,none]) (fun x=> [.var 26 [.ah c.ln c.lz L1,.ah c.bn c.bz L2,.ah c.sn c.sz L3],.var 3 [.int .i64 unit],.var 31 [.ah none 3 E]]) (fun x=>x.1≤S.length) ?_ (0,none) (by simp) (by simp) (by simp);rintro ⟨i,o⟩ hil;simp only at hil⊢;by_cases q1:i<S.length
 ·have g1:=hEg i q1;have g2:=hval i q1;have g3:=w6 S[i];clear w1 w2 w4 w5 w8 w9 a;by_cases q2:i=0
  ·subst q2;clear hnx hEg hval w6 hne;generalize S[0]=x at*
   obtain ⟨x1,x2⟩:=x;simp only at g1 g3;generalize val (x1,x2)=v at*
   have g2':v.isEmpty=false:=by simpa using g2
   simp (maxSteps:=9^9) (disch:=omega) [-List.map_replicate,-List.map_set,-List.getD_eq_getElem?_getD,-getElem?_pos,-getElem?_neg,om,q1,g2',g1,g2,g3,p2,p4,hEl,af];exact ⟨1,by omega,by omega,by simp⟩
  ·have g4:=hEg (i-1) (by omega);have g5:=hnx (i-1) (by omega) (by omega);have e1:i-1+1=i:=by omega
   simp only [e1] at g5;have e2:((i:Int)-1).toNat=i-1:=by omega
   have q3:(0:Int)<(i:Int):=by omega
   clear hnx hEg hval w6 hne;generalize S[i-1]=y at*
   generalize S[i]=x at*
   obtain ⟨x1,x2⟩:=x;obtain ⟨y1,y2⟩:=y;rw [iu] at g5;simp only at g1 g3 g4 g5;generalize val (x1,x2)=v at*
   generalize val (y1,y2)=u at*
   have g2':v.isEmpty=false:=by simpa using g2
   have k1: ¬ x1<y1:=by omega
   rcases g5 with g5 | ⟨rfl,g5⟩
   ·have k2: ¬ y1=x1:=by omega
    have k3:(y1==x1)=false:=by simpa using k2
    simp (maxSteps:=9^9) (disch:=omega) [-List.map_replicate,-List.map_set,-List.getD_eq_getElem?_getD,-getElem?_pos,-getElem?_neg,om,q1,q2,q3,e2,g2',g1,g2,g3,g4,p2,p4,hEl,af,k1,k2,k3];exact ⟨i+1,by omega,by omega,by simp⟩
   ·have k2: ¬ x2≤y2:=by omega
    simp (maxSteps:=9^9) (disch:=omega) [-List.map_replicate,-List.map_set,-List.getD_eq_getElem?_getD,-getElem?_pos,-getElem?_neg,om,q1,q2,q3,e2,g2',g1,g2,g3,g4,p2,p4,hEl,af,k1,k2];exact ⟨i+1,by omega,by omega,by simp⟩
 ·simp (maxSteps:=9^9) (disch:=omega) [-List.map_replicate,-List.map_set,-List.getD_eq_getElem?_getD,-getElem?_pos,-getElem?_neg,om,q1,hEl,w8,w9,w2,w5,p2,p3,p4,af]
theorem Gr {xs:List AV} (h:eh Tryz.prog [26,3,3,9] xs):ar cfg 7 xs []=some (.bool true, []):=by obtain ⟨c,r,rfl,hc,h⟩:=ic h;obtain ⟨root,r,rfl,_,_,h⟩:=eW h;obtain ⟨unit,r,rfl,_,_,h⟩:=eW h;obtain ⟨lang,r,e,hl,h9⟩:=iz h;subst e;obtain rfl:r= []:=h9;exact DI c hc root unit lang hl
end Go.Proofs.YtfnkchadeaedlaaGreatDoor
