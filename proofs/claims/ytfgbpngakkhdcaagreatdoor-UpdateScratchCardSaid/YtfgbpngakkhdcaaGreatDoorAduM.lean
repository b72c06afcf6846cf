/- aid.Number: -/
import Derived.Test.YtfgbpngakkhdcaaGreatDoorAdnM
import Derived.Test.YtfgbpngakkhdcaaGreatDoorAdsM
open List renaming foldl_cons->aa2,getD_eq_getElem?_getD->aaE,length_append->aba,length_cons->aaH,length_drop->abb,length_take->abc,map_replicate->aaO,map_set->aaP
open Nat renaming le_trans->abd
set_option linter.all false
namespace Go.Proofs.YtfgbpngakkhdcaaGreatDoor
open Go.Am
set_option maxRecDepth 10000
set_option maxHeartbeats 4000000
theorem ur (u:Int): ∀(l:List (Sh×ae)) (st:ae),l.foldl (fun st x=>if x.1.unit=u then x.2 else st) st=fE u st l
 | [],_=>rfl
 | x::r,st=>by
  rw [aa2,ur u r,fE];split <;> rfl
def Vc (c:Ct) (u:Int) (f:ae):List ad:= [.var 26 (eV c),.var 3 [.int .i64 u],.var 9 [.str f]]
theorem M4 (c:Ct) (u:Int) (st:ae) (s:Sh) (n:ae) (J:List ad) (hJ:shut (3+J.length) J=true):
  aq cfg 150 (cj s:: .str n:: [.ptr 1 0,.ptr 2 0]) (Vc c u st++J)=some (.aL [],Vc c u (if s.unit=u then n else st)++J):=by
 refine aa Vd QG ?_;have hJm:=shut_map (show 3+J.length<=J.length+1+1+1 by omega) hJ;unfold cj Vc eV;generalize aA c.af=L1 at*
 generalize c.aD.map fD=L2 at*
 generalize c.ao.map cj=L3 at*
 by_cases h:s.unit=u
 ·simp (maxSteps:=9^9) (disch:=omega) [-aaO,-aaP,-aaE,-getElem?_pos,-getElem?_neg,om,JO,h,ab,hJm]
 ·simp (maxSteps:=9^9) (disch:=omega) [-aaO,-aaP,-aaE,-getElem?_pos,-getElem?_neg,om,JO,h,ab,hJm]
theorem yM (c:Ct) (hc:c.ok) (root u:Int):
  aq cfg 101 [b8 c,.int .i64 root,.int .i64 u] []=some (.aL (if iE c=0 then [.str (cP Lib.itoa c root u),.bool (decide (cP Lib.itoa c root u≠ []))] else [.str [],.bool false]), []):=by
 refine aa Ve QH ?_;have h1:=vV c hc;by_cases h:iE c=0
 ·rw [if_pos h];rw [h] at h1
  have h2:=uk (Vc c u) (fun st x=>if x.1.unit=u then x.2 else st) (fun _ _=>True) 3 (fun st=>rfl) (fun st=>rfl) 150 ⟨rfl,rfl,rfl,rfl⟩ [.ptr 1 0,.ptr 2 0] c hc (abd (cJ h).JP (by omega)) (fun n hn=>by simp [ar,AV.under];omega) (fun B=>rfl) rfl
   (fun i st s n J _ _ _ _ hJ=>⟨M4 c u st s n J hJ,trivial⟩) (fun _ _ _=>trivial) root [] trivial
  rw [ur] at h2;have h3:fE u [] (bK Lib.itoa root ⟨[], []⟩ c.ao)=cP Lib.itoa c root u:=rfl;rw [h3] at h2;generalize cP Lib.itoa c root u=N at*
  unfold Vc b8 eV at*
  generalize aA c.af=L1 at*
  generalize c.aD.map fD=L2 at*
  generalize c.ao.map cj=L3 at*
  simp (maxSteps:=9^9) (disch:=omega) [-aaO,-aaP,-aaE,-getElem?_pos,-getElem?_neg,om,JQ,h1,h2,ab];cases N <;> rfl
 ·rw [if_neg h];unfold b8 eV at*
  generalize aA c.af=L1 at*
  generalize c.aD.map fD=L2 at*
  generalize c.ao.map cj=L3 at*
  simp (maxSteps:=9^9) (disch:=omega) [-aaO,-aaP,-aaE,-getElem?_pos,-getElem?_neg,om,JQ,h1,h,ab]
theorem mo {N:Nat} (order:List ae) (el:Int): ∀(l:List Lb) (t:ae) (b:Int),t.length<=N->(∀x∈l,x.text.length<=N)->(fV order el t b l).length<=N
 | [],t,b,h,_=>h
 | x::r,t,b,h,hl=>by
  unfold fV;split
  ·exact mo order el r _ _ (hl x (by simp)) (fun y hy=>hl y (by simp [hy]))
  ·exact mo order el r _ _ h (fun y hy=>hl y (by simp [hy]))
theorem BW {l:List Sh} (h: ∀s∈l,s.mark.length<=64∧s.title.length<=64) (u:Int):(eZ l u).length<=1000:=by
 unfold eZ;split
 ·simp
 ·split
  ·rename_i s hs;obtain ⟨h1,h2⟩:=h s (List.mem_of_getElem? hs);split
   ·omega
   ·simp;omega
  ·simp
theorem Ap (c:Ct) (hc:c.ok) (hk:gl c) (x:Sh) (hx:x∈c.ao) (num:ae) (hnl:num.length<10000) (on:Option Bool) (order:List ae) (ho:order.length<1000000):
  aq cfg 52 [b8 c,cj x,.str num,.ag on 1 (aA order)] []=some (du (kZ Lib.itoa order c (x,num)), []):=by
 have hs:=hk.ao x hx;refine EO c hc (fun s hs=>by have:=hk.ao s hs;exact ⟨by have:=this.mark;omega,by have:=this.BX;omega⟩) (fun u=>BW (fun s hs=>⟨(hk.ao s hs).mark,(hk.ao s hs).BX⟩) u) x num hnl (hc.sh x hx) ⟨hs.l1,hs.l2⟩ (by have:=hs.BX;omega) on order ho (fun el h0 h9=> ?_) (fun f hf=> ?_)
 ·refine abd (mo (N:=64) order el c.aD _ _ ?_ (fun y hy=>(hk.aD y hy).len)) (by omega);have:=Lib.itoa_length_le el h0 h9;simp [gd];omega
 ·have:=hs.facts f hf;exact ⟨by have:=this.len;omega,by have:=this.EP;omega,by have:=this.JR;omega⟩
def Td (c:Ct) (root:Int) (lang:ae) (order:List ae) (l:List mm):List ad:= [.var 26 (eV c),.var 49 [.int .i64 0,.str [],.ax 2 0],.sl ⟨false,some 58,none⟩ 3 [],.var 49 [.int .i64 root,.str lang,.ax 5 l.length],.var 22 [.ag none 1 (aA order)],.sl ⟨false,some 58,none⟩ 3 (l.map du)]
theorem M5 (c:Ct) (hc:c.ok) (hk:gl c) (root:Int) (lang:ae) (order:List ae) (ho:order.length<1000000) (l:List mm) (hl:l.length<1000) (s:Sh) (hs:s∈c.ao) (n:ae) (hn:n.length<10000) (J:List ad) (hJ:shut (6+J.length) J=true):
  aq cfg 51 (cj s:: .str n:: [.ptr 3 0,.ptr 0 0,.ptr 4 0]) (Td c root lang order l++J)=some (.aL [],Td c root lang order (l++ [kZ Lib.itoa order c (s,n)])++J):=by
 refine aa Y8 Vf ?_;have hJm:=shut_map (show 6+J.length<=J.length+1+1+1+1+1+1 by omega) hJ;have hsec:=Ap c hc hk s hs n hn none order ho;have hll:(l.map du).length=l.length:=by simp
 have hse: ∀x:mm,du x= .agg [.int .i64 x.unit,.str x.num,.ag none 3 (x.nodes.map dO)]:=fun x=>rfl;generalize kZ Lib.itoa order c (s,n)=X at*
 have hlx:(l++ [X]).map du=l.map du++ [.agg [.int .i64 X.unit,.str X.num,.ag none 3 (X.nodes.map dO)]]:=by simp [hse]
 have hxp:ai (X.nodes.map dO)=true:=cQ (fun _=>rfl) _;rw [hse X] at hsec;unfold Td;rw [hlx];unfold cj b8 eV at*
 generalize aA c.af=L1 at*
 generalize c.aD.map fD=L2 at*
 generalize c.ao.map _=L3 at*
 generalize aA order=OA at*
 generalize s.facts.map eW=FA at*
 generalize X.nodes.map dO=XN at*
 generalize l.map du=LA at*
 simp (maxSteps:=9^9) (disch:=omega) [-aaO,-aaP,-aaE,-getElem?_pos,-getElem?_neg,om,Vg,hsec,ab,hJm,hll,hxp]
theorem BY (l:List ae) (s:ae):(au l s).length<=l.length+1:=by
 unfold au;split
 ·simp only [aaH,aba,abc,abb];omega
 ·simp
theorem yN {α β:Type} (g:α->β): ∀(l:List α) (a:List β),l.foldl (fun a x=>a++ [g x]) a=a++l.map g
 | [],a=>by simp
 | x::r,a=>by rw [aa2,yN g r];simp
def wb (root:Int) (lang:ae) (l:List mm):AV:= .agg [.int .i64 root,.str lang,.ag none 3 (l.map du)]
def M6:AV:= .agg [.int .i64 0,.str [],.ag (some true) 0 []]
theorem mq (c:Ct) (hc:c.ok) (root:Int) (lang:ae):
  aq cfg 22 [b8 c,.int .i64 root,.str lang] []=some (.aL [if aH c root lang=0 then wb root lang (eh Lib.itoa c root lang) else M6,.int .i64 (aH c root lang)], []):=by
 refine aa Y9 Vh ?_;have h1:=vV c hc;have h2:=oQ c.ln c.lz c.af hc.lz hc.ll lang;have h3:=vw c.sn c.sz c.ao hc.sz hc.sl root;by_cases hE:aH c root lang=0
 ·obtain ⟨hk0,hlang,i,hi⟩:=rf hE;have hk:=cJ hk0;have h4:=sS c hc lang hlang;have hol:(au c.af lang).length<1000000:=by have:=BY c.af lang;have:=hk.l2;omega
  have h5:=uk (Td c root lang (au c.af lang)) (fun l x=>l++ [kZ Lib.itoa (au c.af lang) c x]) (fun i l=>l.length<=i) 6 (fun l=>rfl) (fun l=>by simp [Td,shut,ar,AV.under,cL,eV]) 51 ⟨rfl,rfl,rfl,rfl⟩ [.ptr 3 0,.ptr 0 0,.ptr 4 0] c hc (abd hk.JP (by omega)) (fun n hn=>by simp [ar,AV.under];omega) (fun B=>rfl) rfl
   (fun i l s n J hil hI hs hn hJ=>⟨M5 c hc hk root lang _ hol l (by have:=hk.JP;omega) s hs n hn J hJ,by simpa using hI⟩) (fun i l h=>by omega) root [] (by simp)
  rw [yN,List.nil_append] at h5;have h6:(bK Lib.itoa root ⟨[], []⟩ c.ao).map (kZ Lib.itoa (au c.af lang) c)=eh Lib.itoa c root lang:=rfl;rw [h6] at h5;rw [if_pos hE,hE];rw [hlang] at h2;rw [hi] at h3;rw [hk0] at h1;unfold wb;have hpl:ai ((eh Lib.itoa c root lang).map du)=true:=cQ (fun x=>by simp [du,AV.plain,ai]) _;have hll:((eh Lib.itoa c root lang).map du).length=(eh Lib.itoa c root lang).length:=by simp
  generalize hAP:eh Lib.itoa c root lang=AP at*
  unfold Td b8 eV at*
  simp only [List.map_nil,List.length_nil] at h5;have hoz:(aA (au c.af lang)).length=(au c.af lang).length:=ly _;generalize aA (au c.af lang)=OA at*
  generalize aA c.af=L1 at*
  generalize c.aD.map fD=L2 at*
  generalize c.ao.map cj=L3 at*
  generalize AP.map du=AL at*
  simp (maxSteps:=9^9) (disch:=omega) [-aaO,-aaP,-aaE,-getElem?_pos,-getElem?_neg,om,JS,h1,h2,h3,h4,h5,ab,c6,hll,hpl]
 ·rw [if_neg hE];unfold aH at*
  unfold M6 b8 eV at*
  generalize aA c.af=L1 at*
  generalize c.aD.map fD=L2 at*
  generalize c.ao.map cj=L3 at*
  by_cases e1:iE c=0
  ·rw [if_neg (by simp [e1])] at hE⊢;rw [e1] at h1;cases e2:gP c.af lang with
   | false=>rw [e2] at h2;simp (maxSteps:=9^9) (disch:=omega) [-aaO,-aaP,-aaE,-getElem?_pos,-getElem?_neg,om,JS,h1,h2,ab]
   | true=>
    rw [e2] at h2 hE;cases e3:aY c.ao root with
    | none=>rw [e3] at h3;simp (maxSteps:=9^9) (disch:=omega) [-aaO,-aaP,-aaE,-getElem?_pos,-getElem?_neg,om,JS,h1,h2,h3,ab,c6]
    | some i=>rw [e3] at hE;simp at hE
  ·rw [if_pos e1] at hE⊢;simp (maxSteps:=9^9) (disch:=omega) [-aaO,-aaP,-aaE,-getElem?_pos,-getElem?_neg,om,JS,h1,e1,ab]
theorem yO (c:Ct) (hc:c.ok) (s:ae):aq cfg 153 [b8 c,.str s] []=some (.bool (br c s), []):=by
 refine aa Vi QI ?_;have h1:=vV c hc;have h2:=oQ c.ln c.lz c.af hc.lz hc.ll s;unfold br;unfold b8 eV at*
 generalize aA c.af=L1 at*
 generalize c.aD.map fD=L2 at*
 generalize c.ao.map cj=L3 at*
 by_cases h:iE c=0
 ·rw [h] at h1;simp (maxSteps:=9^9) (disch:=omega) [-aaO,-aaP,-aaE,-getElem?_pos,-getElem?_neg,om,JT,h1,h2,h]
 ·have hb:(iE c==0)=false:=by simp [h]
  simp (maxSteps:=9^9) (disch:=omega) [-aaO,-aaP,-aaE,-getElem?_pos,-getElem?_neg,om,JT,h1,h,hb]
theorem BZ (c:Ct) (hc:c.ok) (s:ae):aq cfg 54 [b8 c,.str s] []=some (.bool (br c s), []):=by
 refine aa Za Vj ?_;have h1:=vV c hc;have h2:=oQ c.ln c.lz c.af hc.lz hc.ll s;unfold br;unfold b8 eV at*
 generalize aA c.af=L1 at*
 generalize c.aD.map fD=L2 at*
 generalize c.ao.map cj=L3 at*
 by_cases h:iE c=0
 ·rw [h] at h1;simp (maxSteps:=9^9) (disch:=omega) [-aaO,-aaP,-aaE,-getElem?_pos,-getElem?_neg,om,QJ,h1,h2,h]
 ·have hb:(iE c==0)=false:=by simp [h]
  simp (maxSteps:=9^9) (disch:=omega) [-aaO,-aaP,-aaE,-getElem?_pos,-getElem?_neg,om,QJ,h1,h,hb]
theorem JU (c:Ct) (hc:c.ok) (u:Int):aq cfg 104 [b8 c,.int .i64 u] []=some (.str (if iE c=0 then eZ c.ao u else []), []):=by
 refine aa Vk QK ?_;have h1:=vV c hc;by_cases h:iE c=0
 ·have hk:=cJ h;have h2:=BR c hc u (fun s hs=>by have:=(hk.ao s hs).mark;have:=(hk.ao s hs).BX;omega);rw [if_pos h];rw [h] at h1;unfold b8 eV at*
  generalize aA c.af=L1 at*
  generalize c.aD.map fD=L2 at*
  generalize c.ao.map cj=L3 at*
  simp (maxSteps:=9^9) (disch:=omega) [-aaO,-aaP,-aaE,-getElem?_pos,-getElem?_neg,om,JV,h1,h2]
 ·rw [if_neg h];unfold b8 eV at*
  generalize aA c.af=L1 at*
  generalize c.aD.map fD=L2 at*
  generalize c.ao.map cj=L3 at*
  simp (maxSteps:=9^9) (disch:=omega) [-aaO,-aaP,-aaE,-getElem?_pos,-getElem?_neg,om,JV,h1,h]
theorem wg {c:Ct} {s:ae} (h:br c s=true):gP c.af s=true:=by unfold br at h;simp at h;exact h.2
theorem sU {c:Ct} (hc:c.ok) (s:ae):(au c.af s).length<1000000∨(au c.af s).length<=c.af.length+1:=by
 right;unfold au;split
 ·simp only [aaH,aba,abc,abb];omega
 ·simp
theorem JW (c:Ct) (hc:c.ok) (el:Int) (s:ae):aq cfg 103 [b8 c,.int .i64 el,.str s] []=some (.str (if el<1∨64<el∨br c s=false then [] else gz (au c.af s) c.aD el (gd Lib.itoa el)), []):=by
 refine aa Vl QL ?_;have h1:=yO c hc s;by_cases h:el<1∨64<el
 ·rw [if_pos (by omega)];unfold b8 eV at*
  generalize aA c.af=L1 at*
  generalize c.aD.map fD=L2 at*
  generalize c.ao.map cj=L3 at*
  rcases h with h | h
  ·simp (maxSteps:=9^9) (disch:=omega) [-aaO,-aaP,-aaE,-getElem?_pos,-getElem?_neg,om,Ca,h]
  ·simp (maxSteps:=9^9) (disch:=omega) [-aaO,-aaP,-aaE,-getElem?_pos,-getElem?_neg,om,Ca,h]
 ·cases hr:br c s with
  | false=>
   rw [if_pos (.inr (.inr rfl))];rw [hr] at h1;unfold b8 eV at*
   generalize aA c.af=L1 at*
   generalize c.aD.map fD=L2 at*
   generalize c.ao.map cj=L3 at*
   simp (maxSteps:=9^9) (disch:=omega) [-aaO,-aaP,-aaE,-getElem?_pos,-getElem?_neg,om,Ca,h1,h]
  | true=>
   rw [if_neg (by simp;omega)];rw [hr] at h1;have h2:=sS c hc s (wg hr);have hk:iE c=0:=by unfold br at hr;simp at hr;exact hr.1
   have hl:=(sU hc s).resolve_left;have h3:=BQ c hc el (by omega) (by omega) none (au c.af s) (by have:=(cJ hk).l2;rcases sU hc s with h | h <;> omega);unfold b8 eV at*
   generalize aA c.af=L1 at*
   generalize c.aD.map fD=L2 at*
   generalize c.ao.map cj=L3 at*
   generalize aA (au c.af s)=OA at*
   simp (maxSteps:=9^9) (disch:=omega) [-aaO,-aaP,-aaE,-getElem?_pos,-getElem?_neg,om,Ca,h1,h2,h3,h]
theorem yP (c:Ct) (hc:c.ok) (u:Int) (s:ae): ∃nl z,aq cfg 112 [b8 c,.int .i64 u,.str s] []=some (.ag nl z ((ba c u s).map eW), [])∧(ba c u s≠ []->z=3):=by
 have h1:=yO c hc s;have h2:=vw c.sn c.sz c.ao hc.sz hc.sl u;unfold ba k7;cases hx:aY c.ao u with
 | none=>
  rw [hx] at h2;have hsU:dI c u=none:=by unfold dI;rw [hx]
  rw [hsU];have he:(if br c s=true then an (au c.af s) [] else [])= []:=by split <;> rfl
  simp only [he];refine ⟨some true,0,?_,fun h=>absurd rfl h⟩;refine aa JX ER ?_;unfold b8 eV at*
  generalize aA c.af=L1 at*
  generalize c.aD.map fD=L2 at*
  generalize c.ao.map cj=L3 at*
  simp (maxSteps:=9^9) (disch:=omega) [-aaO,-aaP,-aaE,-getElem?_pos,-getElem?_neg,om,GK,h2,c6]
 | some i=>
  rw [hx] at h2;have hi:=ep hx;have hgo:c.ao[i]?=some c.ao[i]:=List.getElem?_eq_getElem hi;have hsU:dI c u=some c.ao[i]:=by unfold dI;rw [hx];exact hgo
  rw [hsU];have hsz:=hc.sz (ne_of_lt hi);have hg:(c.ao.map cj)[i]?=some (.agg [.int .i64 c.ao[i].unit,.int .i64 c.ao[i].par,.int .i64 c.ao[i].level,.str c.ao[i].mark,.str c.ao[i].title,.ag c.ao[i].fn c.ao[i].fz (c.ao[i].facts.map eW)]):=get_map _ _ hi;have hso:=hc.sh _ (List.getElem_mem hi);have hEl:(c.ao.map cj).length=c.ao.length:=by simp
  have hil:i<1000000:=by have:=hc.sl;omega
  cases hr:br c s with
  | false=>
   rw [hr] at h1;refine ⟨some true,0,?_,by simp⟩;refine aa JX ER ?_;unfold b8 eV at*
   generalize aA c.af=L1 at*
   generalize c.aD.map fD=L2 at*
   generalize c.ao.map cj=L3 at*
   simp (maxSteps:=9^9) (disch:=omega) [-aaO,-aaP,-aaE,-getElem?_pos,-getElem?_neg,om,GK,h1,h2,c6]
  | true=>
   rw [hr] at h1;have h3:=sS c hc s (wg hr);have hk:iE c=0:=by unfold br at hr;simp at hr;exact hr.1
   have h4:=vX c.ao[i].fn c.ao[i].fz c.ao[i].facts hso.fz hso.fl none (au c.af s) (by have:=(cJ hk).l2;rcases sU hc s with h | h <;> omega);refine ⟨none,3,?_,fun _=>rfl⟩;refine aa JX ER ?_;unfold b8 eV at*
   simp only [if_true];generalize c.ao[i]=x at*
   generalize aA c.af=L1 at*
   generalize c.aD.map fD=L2 at*
   generalize c.ao.map cj=L3 at*
   generalize aA (au c.af s)=OA at*
   generalize (an (au c.af s) x.facts).map eW=CA at*
   rw [hsz] at*
   simp (maxSteps:=9^9) (disch:=omega) [-aaO,-aaP,-aaE,-getElem?_pos,-getElem?_neg,om,GK,h1,h2,h3,h4,c6,hg,hEl,hi]
theorem HN (s:Sh) (u:Int) (B:List ad) (hB:shut B.length B=true) (hu:ad.at B 1= .var 3 [.int .i64 u]):aq cfg 188 [cj s,.ptr 1 0] B=some (.bool (s.unit==u),B):=by
 refine aa Vm QM ?_;have hm:=shut_map (Nat.le_refl _) hB
 have h1:1<B.length:=by
  rcases Nat.lt_or_ge 1 B.length with h | h
  ·exact h
  ·have:ad.at B 1= .dead:=by simp [ad.at,aaE,List.getElem?_eq_none h]
   rw [this] at hu;cases hu
 have a1: ∀l,ad.at (B++l) 1= .var 3 [.int .i64 u]:=fun l=>by rw [fG _ _ h1,hu]
 unfold cj;simp (maxSteps:=9^9) (disch:=omega) [-aaO,-aaP,-aaE,-getElem?_pos,-getElem?_neg,om,Pn,a1,hm]
 try exact List.take_left' (by simp)
theorem JY (c:Ct) (hc:c.ok) (u:Int):aq cfg 151 [b8 c,.int .i64 u] []=some (.int .i64 (c6 (aY c.ao u)), []):=by
 refine aa Vn QN ?_;have h:=BM c.sn c.sz c.ao hc.sz hc.sl 188 ⟨rfl,rfl,rfl,rfl⟩ 1 [.var 26 (eV c),.var 3 [.int .i64 u]] u (fun s=>HN s u _ (by simp [shut,ar,AV.under,eV]) rfl) (by simp) (by simp [shut,ar,AV.under,eV]);unfold b8 eV at*
 generalize aA c.af=L1 at*
 generalize c.aD.map fD=L2 at*
 generalize c.ao.map cj=L3 at*
 simp (maxSteps:=9^9) (disch:=omega) [-aaO,-aaP,-aaE,-getElem?_pos,-getElem?_neg,om,Po,h]
theorem cH:Lib.fields [102,111,110,100,115,32,115,101,114,105,101,115,32,102,105,108,101,32,105,116,101,109]= [[102,111,110,100,115], [115,101,114,105,101,115], [102,105,108,101], [105,116,101,109]]:=by decide+kernel
theorem GL (lev:Int) (h1:1<=lev) (h4:lev<=4):aq cfg 134 [.int .i64 lev] []=some (.str (g8 lev), []):=by
 refine aa Vo QO ?_;have h:lev=1∨lev=2∨lev=3∨lev=4:=by omega
 rcases h with rfl | rfl | rfl | rfl
 ·simp (maxSteps:=9^9) (disch:=omega) [-aaO,-aaP,-aaE,-getElem?_pos,-getElem?_neg,om,Cb,eR,cH,g8]
 ·simp (maxSteps:=9^9) (disch:=omega) [-aaO,-aaP,-aaE,-getElem?_pos,-getElem?_neg,om,Cb,eR,cH,g8]
 ·simp (maxSteps:=9^9) (disch:=omega) [-aaO,-aaP,-aaE,-getElem?_pos,-getElem?_neg,om,Cb,eR,cH,g8]
 ·simp (maxSteps:=9^9) (disch:=omega) [-aaO,-aaP,-aaE,-getElem?_pos,-getElem?_neg,om,Cb,eR,cH,g8]
end Go.Proofs.YtfgbpngakkhdcaaGreatDoor
