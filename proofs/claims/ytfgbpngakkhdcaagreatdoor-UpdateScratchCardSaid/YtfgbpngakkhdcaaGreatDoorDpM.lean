/- depend.text: -/
import Derived.Test.YtfgbpngakkhdcaaGreatDoorAduM
import Derived.Test.YtfgbpngakkhdcaaGreatDoorEscM
open Int renaming toNat_natCast->aa5
open List renaming append_assoc->aa6,append_nil->aa3,cons_append->abI,drop_eq_nil_of_le->aaC,getD_eq_getElem?_getD->aaE,getElem?_eq_getElem->aaF,getElem?_eq_none->abv,getElem_mem->aa8,length_append->aba,length_cons->aaH,length_nil->abL,length_singleton->ac4,map_map->ab2,map_nil->aaN,map_replicate->aaO,map_set->aaP,mem_append->abN,mem_map->aaS,mem_singleton->adl,nil_append->adm,take_left'->aaZ,take_length->adn
open Nat renaming le_refl->aa0,le_trans->abd,lt_or_ge->abm,zero_add->abz
set_option linter.all false
namespace Go.Proofs.YtfgbpngakkhdcaaGreatDoor
open Go.Am
set_option maxRecDepth 10000
set_option maxHeartbeats 4000000
theorem F9 {bs l:List ad} (hs:shut bs.length bs=true) (hl: ∀m,shut m l=true) {a:AV} (ha:a= .bZ∨a= .ptr bs.length 0) (s:ae):Qo (bp bs a s++l) bs.length (bs.length+1) a s:=by
 unfold bp;refine ⟨?_,?_,by omega,ha,by simp,by simp,?_⟩
 ·rw [aa6,yJ];rfl
 ·rw [aa6,eC];rfl
 ·rw [eF,eF,jj (by simp) hs,hl];rcases ha with rfl | rfl <;> simp [shut,ar,AV.under]
theorem Ga {bs l:List ad} {a:AV} {s t:ae}:iX (bp bs a s++l) bs.length (bs.length+1) t=bp bs (.ptr bs.length 0) t++l:=by unfold iX bp;rw [aa6,v8,cX,aa6];rfl
theorem Ol (c:Ct) (hc:c.ok) (u:Int) (lang:ae) (hr:br c lang=true):aq cfg 102 [b8 c,.int .i64 u,.str lang] []=some (.str (match dI c u with
  | some s=>DZ Lib.itoa esc (g8 s.level) s.title s.mark (an (au c.af lang) s.facts)
  | none=> []), []):=by
 have h1:=JY c hc u;obtain ⟨nl,z,h2,h2z⟩:=yP c hc u lang;have hch:ba c u lang=an (au c.af lang) (k7 c u):=by unfold ba;rw [if_pos hr]
 rw [hch] at h2 h2z;have hk:iE c=0:=by unfold br at hr;simp at hr;exact hr.1
 have hok:=cJ hk;refine aa Ww R5 ?_;cases hx:aY c.ao u with
 | none=>
  have hsU:dI c u=none:=by unfold dI;rw [hx]
  rw [hx] at h1;simp only [hsU];unfold b8 eV at*
  generalize aA c.af=L1 at*
  generalize c.aD.map fD=L2 at*
  generalize c.ao.map cj=L3 at*
  simp (maxSteps:=9^9) (disch:=omega) [-aaO,-aaP,-aaE,-getElem?_pos,-getElem?_neg,om,Lm,h1,c6]
 | some i=>
  rw [hx] at h1;have hi:=ep hx;have hgo:c.ao[i]?=some c.ao[i]:=aaF hi;have hsU:dI c u=some c.ao[i]:=by unfold dI;rw [hx];exact hgo
  have hfU:k7 c u=c.ao[i].facts:=by unfold k7;rw [hsU]
  rw [hfU] at h2 h2z;have hsz:=hc.sz (ne_of_lt hi);have hg:(c.ao.map cj)[i]?=some (.agg [.int .i64 c.ao[i].unit,.int .i64 c.ao[i].par,.int .i64 c.ao[i].level,.str c.ao[i].mark,.str c.ao[i].title,.ag c.ao[i].fn c.ao[i].fz (c.ao[i].facts.map eW)]):=get_map _ _ hi;have hEl:(c.ao.map cj).length=c.ao.length:=by simp
  have hso:=hok.ao _ (aa8 hi);have hil:i<1000000:=by have:=hc.sl;omega
  simp only [hsU];have hw:=GL c.ao[i].level hso.l1 hso.l2;have ht:=vK c.ao[i].title (by have:=hso.BX;omega);have hm:=vK c.ao[i].mark (by have:=hso.mark;omega);have htl:=j6 c.ao[i].title;have hml:=j6 c.ao[i].mark;have htl2:=hso.BX;have hml2:=hso.mark
  have htg:(g8 c.ao[i].level).length<=6:=by
   unfold g8
   repeat' split
   all_goals simp
  unfold b8 eV at*
  generalize c.ao[i]=x at*
  generalize aA c.af=L1 at*
  generalize c.aD.map fD=L2 at*
  generalize c.ao.map cj=L3 at*
  rw [hsz] at*
  obtain ⟨Y1,hY1⟩: ∃Y,Y=g8 x.level++32::(esc x.title++ [10]):=⟨_,rfl⟩;obtain ⟨Y2,hY2⟩: ∃Y,Y=Y1++([109,97,114,107,32]++(esc x.mark++ [10])):=⟨_,rfl⟩;have hY1l:Y1.length<=264:=by rw [hY1];simp;omega
  have hbs:shut 2 [.var 26 [.ag c.ln c.lz L1,.ag c.bn c.bz L2,.ag c.sn 6 L3],.var 74 [.int .i64 x.unit,.int .i64 x.par,.int .i64 x.level,.str x.mark,.str x.title,.ag x.fn x.fz (x.facts.map eW)]]=true:=by simp [shut,ar,AV.under]
  have hw1:=iB (g7 (bs:= [.var 26 [.ag c.ln c.lz L1,.ag c.bn c.bz L2,.ag c.sn 6 L3],.var 74 [.int .i64 x.unit,.int .i64 x.par,.int .i64 x.level,.str x.mark,.str x.title,.ag x.fn x.fz (x.facts.map eW)]]) hbs (a:= .bZ) (.inl rfl) []) (g8 x.level++32::(esc x.title++ [10])) (by simp) (by simp;omega);have hw2:=iB (g7 (bs:= [.var 26 [.ag c.ln c.lz L1,.ag c.bn c.bz L2,.ag c.sn 6 L3],.var 74 [.int .i64 x.unit,.int .i64 x.par,.int .i64 x.level,.str x.mark,.str x.title,.ag x.fn x.fz (x.facts.map eW)]]) hbs (a:= .ptr 2 0) (.inr rfl) Y1) ([109,97,114,107,32]++(esc x.mark++ [10])) (by omega) (by simp;omega);rw [js,adm] at hw1;replace hw1:aq cfg 147 [.ptr 2 0,.str (g8 x.level++32::(esc x.title++ [10]))] (bp [.var 26 [.ag c.ln c.lz L1,.ag c.bn c.bz L2,.ag c.sn 6 L3],.var 74 [.int .i64 x.unit,.int .i64 x.par,.int .i64 x.level,.str x.mark,.str x.title,.ag x.fn x.fz (x.facts.map eW)]] .bZ [])=some (.aL [.int .i64 ((g8 x.level++32::(esc x.title++ [10])).length:Nat),.gR false],bp [.var 26 [.ag c.ln c.lz L1,.ag c.bn c.bz L2,.ag c.sn 6 L3],.var 74 [.int .i64 x.unit,.int .i64 x.par,.int .i64 x.level,.str x.mark,.str x.title,.ag x.fn x.fz (x.facts.map eW)]] (.ptr 2 0) Y1):=by rw [hY1];exact hw1
  rw [js,<-hY2] at hw2;have hY2l:Y2.length<=1000:=by rw [hY2];simp;omega
  simp only [bp,abI,adm,abL,aaN,aaH,abz,Nat.reduceAdd] at hw1 hw2;simp (maxSteps:=9^9) (disch:=omega) [-aaO,-aaP,-aaE,-getElem?_pos,-getElem?_neg,om,Lm,h1,h2,c6,hg,hEl,hi,ab,hw,ht,hm,hw1,hw2];have hCHl:(an (au c.af lang) x.facts).length<=32:=abd (gf _ _) hso.K8;have hE: ∀k (h:k<(an (au c.af lang) x.facts).length),((an (au c.af lang) x.facts).map eW)[k]?=some (.agg [.int .i64 (an (au c.af lang) x.facts)[k].el,.str (an (au c.af lang) x.facts)[k].lang,.str (an (au c.af lang) x.facts)[k].text]):=fun k h=>get_map _ _ h;have hF: ∀k (h:k<(an (au c.af lang) x.facts).length),FV c.af (an (au c.af lang) x.facts)[k]:=fun k h=>hso.facts _ (aM (aa8 h));have hEl2:((an (au c.af lang) x.facts).map eW).length=(an (au c.af lang) x.facts).length:=by simp
  have hT:DZ Lib.itoa esc (g8 x.level) x.title x.mark (an (au c.af lang) x.facts)=Y2++(an (au c.af lang) x.facts).flatMap fun f=>Lib.itoa f.el++ [32]++esc f.text++ [10]:=by rw [hY2,hY1];simp [DZ,oD]
  have hY2n:Y2≠ []:=by rw [hY2];simp
  generalize an (au c.af lang) x.facts=CH at*
  generalize hTT:DZ Lib.itoa esc (g8 x.level) x.title x.mark CH=TT at*
  generalize CH.map eW=CA at*
  clear hw1 hw2 hY1 hY2 hg h1 h2 hw ht hm hTT
  refine Wp.aP (fun (a:Nat×ae)=>CH.length-a.1) (fun a=> [none,none,none,none,none,none,none,some (.ptr 2 0),none,none,none,none,none,none,none,some (.ag nl z CA),some (.int .i64 CH.length),some (.int .i64 a.1),none,none,none,none,none]) (fun a=> [.var 26 [.ag c.ln c.lz L1,.ag c.bn c.bz L2,.ag c.sn 6 L3],.var 74 [.int .i64 x.unit,.int .i64 x.par,.int .i64 x.level,.str x.mark,.str x.title,.ag x.fn x.fz (x.facts.map eW)],.var 178 [.ptr 2 0,.ax 3 a.2.length],.sl ⟨false,some 5,none⟩ 1 (a.2.map ak)])
   (fun a=>(TT=a.2++(CH.drop a.1).flatMap fun f=>Lib.itoa f.el++ [32]++esc f.text++ [10])∧a.1<=CH.length∧a.2.length<=1000+20000*a.1∧a.2≠ []) ?_ (0,Y2) ⟨by simpa using hT,by simp,by simp;omega,hY2n⟩ (by simp) (by simp)
  rintro ⟨k,out⟩ ⟨hk1,hkl,hol,hon⟩;simp only at hk1 hkl hol hon⊢;rw [hk1];by_cases h3:k<CH.length
  ·have hgk:=hE k h3;have hfk:=hF k h3;obtain rfl:=h2z (ne_of_lt h3);rw [List.drop_eq_getElem_cons h3,List.flatMap_cons] at hk1⊢;clear hE hF;generalize CH[k]=f at*
   have hel:=vK f.text (by have:=hfk.len;omega);have hetl:=j6 f.text;have hfl:=hfk.len;have hitl:=Lib.itoa_length_le f.el (by have:=hfk.EP;omega) (by have:=hfk.JR;omega);have hid1: -9223372036854775808<=f.el:=by have:=hfk.EP;omega
   have hid2:f.el<=9223372036854775807:=by have:=hfk.JR;omega
   obtain ⟨Y3,hY3⟩: ∃Y,Y=out++(Lib.itoa f.el++32::(esc f.text++ [10])):=⟨_,rfl⟩;have hw3:=iB (F9 (bs:= [.var 26 [.ag c.ln c.lz L1,.ag c.bn c.bz L2,.ag c.sn 6 L3],.var 74 [.int .i64 x.unit,.int .i64 x.par,.int .i64 x.level,.str x.mark,.str x.title,.ag x.fn x.fz (x.facts.map eW)]]) (l:= [.var 76 [.int .i64 f.el,.str f.lang,.str f.text]]) hbs (fun m=>rfl) (a:= .ptr 2 0) (.inr rfl) out) (Lib.itoa f.el++32::(esc f.text++ [10])) (by omega) (by simp;omega);rw [Ga,<-hY3] at hw3;have hY3l:Y3.length<=1000+20000*(k+1):=by rw [hY3];simp;omega
   have hY3n:Y3≠ []:=by rw [hY3];simp
   have hk2:out++((Lib.itoa f.el++ [32]++esc f.text++ [10])++(CH.drop (k+1)).flatMap fun f=>Lib.itoa f.el++ [32]++esc f.text++ [10])=Y3++(CH.drop (k+1)).flatMap fun f=>Lib.itoa f.el++ [32]++esc f.text++ [10]:=by rw [hY3];simp
   rw [hk2] at hk1⊢;rw [<-hk1];simp only [bp,abI,adm,abL,aaH,abz,Nat.reduceAdd] at hw3;generalize hit:Lib.itoa f.el=it at*
   clear hY3 hk2;simp (maxSteps:=9^9) (disch:=omega) [-aaO,-aaP,-aaE,-getElem?_pos,-getElem?_neg,om,h3,hgk,ab,BO,hid1,hid2,hit,hel,hw3];exact ⟨k+1,Y3,⟨by rw [hk1];simp,by omega,by omega,hY3n⟩,by omega,by omega,rfl,rfl⟩
  ·rw [aaC (by omega),List.flatMap_nil,aa3] at hk1⊢;have hst:=qb (g7 (bs:= [.var 26 [.ag c.ln c.lz L1,.ag c.bn c.bz L2,.ag c.sn 6 L3],.var 74 [.int .i64 x.unit,.int .i64 x.par,.int .i64 x.level,.str x.mark,.str x.title,.ag x.fn x.fz (x.facts.map eW)]]) hbs (a:= .ptr 2 0) (.inr rfl) out) (by omega) hon;simp only [bp,abI,adm,abL,aaH,abz,Nat.reduceAdd] at hst;simp (maxSteps:=9^9) (disch:=omega) [-aaO,-aaP,-aaE,-getElem?_pos,-getElem?_neg,om,h3,hst]
theorem tV (c:Ct) (hc:c.ok) (root:Int) (lang:ae) (x:Int×Int) (hr:br c lang=true):aq cfg 55 [b8 c,.int .i64 root,.str lang,.agg [.int .i64 x.1,.int .i64 x.2]] []=some (.str (yx Lib.itoa esc c lang root x), []):=by
 have hk:iE c=0:=by unfold br at hr;simp at hr;exact hr.1
 have h1:=yM c hc root x.2;have h2:=Ol c hc x.2 lang hr;have h3:=JW c hc x.2 lang;have h4:=JU c hc x.2;rw [if_pos hk] at h1 h4;have h3e:(if x.2<1∨64<x.2∨br c lang=false then [] else gz (au c.af lang) c.aD x.2 (gd Lib.itoa x.2))=(if x.2<1∨64<x.2 then [] else gz (au c.af lang) c.aD x.2 (gd Lib.itoa x.2)):=by rw [hr];simp
 rw [h3e] at h3;refine aa Zs Wx ?_;unfold yx
 generalize hV2:(match dI c x.2 with
  | some s=>DZ Lib.itoa esc (g8 s.level) s.title s.mark (an (au c.af lang) s.facts)
  | none=>([]:ae))=V2 at*
 generalize (if x.2<1∨64<x.2 then ([]:ae) else gz (au c.af lang) c.aD x.2 (gd Lib.itoa x.2))=V3 at*
 generalize cP Lib.itoa c root x.2=V1 at*
 generalize eZ c.ao x.2=V4 at*
 clear h3e;unfold b8 eV at*
 generalize aA c.af=L1 at*
 generalize c.aD.map fD=L2 at*
 generalize c.ao.map cj=L3 at*
 obtain ⟨k,u⟩:=x;simp only at*
 by_cases e1:k=1
 ·simp (maxSteps:=9^9) (disch:=omega) [-aaO,-aaP,-aaE,-getElem?_pos,-getElem?_neg,om,IM,e1,h1]
 by_cases e2:k=2
 ·simp (maxSteps:=9^9) (disch:=omega) [-aaO,-aaP,-aaE,-getElem?_pos,-getElem?_neg,om,IM,e2,h2]
  first | (cases dI c u <;> rfl) | (rw [<-hV2];cases dI c u <;> rfl) | rfl
 by_cases e3:k=3
 ·simp (maxSteps:=9^9) (disch:=omega) [-aaO,-aaP,-aaE,-getElem?_pos,-getElem?_neg,om,IM,e3,h3]
 by_cases e4:k=4
 ·simp (maxSteps:=9^9) (disch:=omega) [-aaO,-aaP,-aaE,-getElem?_pos,-getElem?_neg,om,IM,e4,h4]
 simp (maxSteps:=9^9) (disch:=omega) [-aaO,-aaP,-aaE,-getElem?_pos,-getElem?_neg,om,IM,e1,e2,e3,e4]
theorem zO (c:Ct) (hc:c.ok) (root:Int) (lang:ae) (x:Int×Int):aq cfg 56 [b8 c,.int .i64 root,.str lang,.agg [.int .i64 x.1,.int .i64 x.2]] []=some (.str (if br c lang=true then yx Lib.itoa esc c lang root x else []), []):=by
 refine aa Zt Wy ?_;have h1:=BZ c hc lang;cases hr:br c lang with
 | true=>
  have h2:=tV c hc root lang x hr;rw [hr] at h1;unfold b8 eV at*
  generalize aA c.af=L1 at*
  generalize c.aD.map fD=L2 at*
  generalize c.ao.map cj=L3 at*
  simp (maxSteps:=9^9) (disch:=omega) [-aaO,-aaP,-aaE,-getElem?_pos,-getElem?_neg,om,R6,h1,h2]
 | false=>
  rw [hr] at h1;unfold b8 eV at*
  generalize aA c.af=L1 at*
  generalize c.aD.map fD=L2 at*
  generalize c.ao.map cj=L3 at*
  simp (maxSteps:=9^9) (disch:=omega) [-aaO,-aaP,-aaE,-getElem?_pos,-getElem?_neg,om,R6,h1]
set_option maxHeartbeats 8000000
def tW (t:ae) (j:Nat):List Cell:=(List.range j).filterMap fun i=>if (aj (t.drop i)).2=0 then none else some (4,(aj (t.drop i)).1)
theorem u7 (t:ae) (j:Nat) (z:Cell):z∈tW t (j+1)↔z∈tW t j∨((aj (t.drop j)).2≠0∧z=(4,(aj (t.drop j)).1)):=by
 unfold tW;rw [List.range_succ,List.filterMap_append,abN];by_cases h:(aj (t.drop j)).2=0
 ·simp [h]
 ·simp [h]
theorem l5 (m:List (Cell×Nat)) (c:Nat) (z:Cell):(fU m c z).length<=m.length+1:=by unfold fU;split <;> simp
theorem tX (n:Nat):cK n∘l9=l9:=by funext x;simp [cK,l9,forget,nF]
theorem l6 (n:Nat) (m:List (Cell×Nat)):db n (m.map l9)=true:=by apply uO;intro x;simp [l9,AV.under]
theorem IP (n:Int) (h1:1<=n) (h2:n<=64):Lib.itoa n=ny n.toNat:=by
 obtain ⟨k,rfl⟩:=Int.eq_ofNat_of_zero_le (show 0<=n by omega);unfold Lib.itoa ny;rw [if_neg (by omega)];simp only [aa5,Int.natAbs_natCast];by_cases h:k<10
 ·rw [if_pos h,Lib.decDigits,dif_pos h]
 ·rw [if_neg h,Lib.decDigits,dif_neg h,Lib.decDigits,dif_pos (by omega)];rfl
def sK (u:Int) (CH:List Fc) (k:Nat) (M:List (Cell×Nat)):Prop:= ∀y,y∈M.map Prod.fst↔y∈(CH.take k).flatMap cF∨y=(1,u)∨y=(2,u)
def j7 (M1:List (Cell×Nat)) (t:ae) (j:Nat) (M:List (Cell×Nat)):Prop:= ∀y,y∈M.map Prod.fst↔y∈M1.map Prod.fst∨y∈tW t j
theorem j7.start (M1:List (Cell×Nat)) (t:ae):j7 M1 t 0 M1:=fun y=>by simp [tW]
theorem j7.skip {M1 M:List (Cell×Nat)} {t:ae} {j:Nat} (h:j7 M1 t j M) (h0:(aj (t.drop j)).2=0):j7 M1 t (j+1) M:=fun y=>by
 rw [h y,u7];constructor
 ·rintro (q | q)
  ·exact .inl q
  ·exact .inr (.inl q)
 ·rintro (q | q | q)
  ·exact .inl q
  ·exact .inr q
  ·exact absurd h0 q.1
theorem j7.put {M1 M M':List (Cell×Nat)} {t:ae} {j:Nat} (h:j7 M1 t j M) (h0:(aj (t.drop j)).2≠0) (hm: ∀y,y∈M'.map Prod.fst↔y∈M.map Prod.fst∨y=(4,(aj (t.drop j)).1)):j7 M1 t (j+1) M':=fun y=>by
 rw [hm y,h y,u7];constructor
 ·rintro ((q | q) | q)
  ·exact .inl q
  ·exact .inr (.inl q)
  ·exact .inr (.inr ⟨h0,q⟩)
 ·rintro (q | q | q)
  ·exact .inl (.inl q)
  ·exact .inl (.inr q)
  ·exact .inr q.2
theorem sK.next {u:Int} {CH:List Fc} {k:Nat} (hk:k<CH.length) {M M1 M2:List (Cell×Nat)} (h:sK u CH k M) (h1: ∀y,y∈M1.map Prod.fst↔y∈M.map Prod.fst∨y=(3,CH[k].el)) (h2:j7 M1 CH[k].text CH[k].text.length M2):sK u CH (k+1) M2:=fun y=>by
 have hc:tW CH[k].text CH[k].text.length=eM CH[k].text:=rfl;rw [h2 y,h1 y,h y,hc,vP CH hk,List.flatMap_append,abN];have:y∈ [CH[k]].flatMap cF↔y=(3,CH[k].el)∨y∈eM CH[k].text:=by simp [cF]
 rw [this];constructor
 ·rintro (((q | q | q) | q) | q)
  ·exact .inl (.inl q)
  ·exact .inr (.inl q)
  ·exact .inr (.inr q)
  ·exact .inl (.inr (.inl q))
  ·exact .inl (.inr (.inr q))
 ·rintro ((q | q | q) | q | q)
  ·exact .inl (.inl (.inl q))
  ·exact .inl (.inr q)
  ·exact .inr q
  ·exact .inl (.inl (.inr (.inl q)))
  ·exact .inl (.inl (.inr (.inr q)))
theorem IQ (c:Ct) (hc:c.ok) (root u:Int) (lang:ae) (h0:aH c root lang=0) (h1:cP Lib.itoa c root u≠ []):
  aq cfg 66 [b8 c,.int .i64 root,.str lang,.int .i64 u] []=some (.aL [.ag none 3 (((cellsOf u (ba c u lang)).map fun z=>(z,yx Lib.itoa esc c lang root z)).map nf),.int .i64 0], []):=by
 have hr:=dA h0;have hk:iE c=0:=by unfold br at hr;simp at hr;exact hr.1
 have hok:=cJ hk;have w1:=mq c hc root lang;have w2:=yM c hc root u;rw [if_pos hk] at w2;obtain ⟨nl,z,w3,hz⟩:=yP c hc u lang;have wv: ∀x:Cell,_:=fun x=>tV c hc root lang x hr;rw [h0,if_pos rfl] at w1
 have hF: ∀f∈ba c u lang,FV c.af f:=by
  intro f hf;unfold ba at hf;rw [if_pos hr] at hf;have hf:=aM hf;unfold k7 at hf;cases hs:dI c u with
  | none=>rw [hs] at hf;cases hf
  | some s=>rw [hs] at hf;obtain ⟨_,_,_,_,hm⟩:=kQ hs;exact (hok.ao s hm).facts f hf
 have hFl:(ba c u lang).length<=32:=by
  unfold ba;rw [if_pos hr];refine abd (gf _ _) ?_;unfold k7;cases hs:dI c u with
  | none=>simp
  | some s=>obtain ⟨_,_,_,_,hm⟩:=kQ hs;exact (hok.ao s hm).K8
 have hS:=kO u (ba c u lang);have hM: ∀z,z∈cellsOf u (ba c u lang)↔_:=fun z=>cu (z:=z);generalize cellsOf u (ba c u lang)=S at*
 generalize hval:yx Lib.itoa esc c lang root=val at*
 refine aa Zu Wz ?_;have hE: ∀k (h:k<(ba c u lang).length),((ba c u lang).map eW)[k]?=some (.agg [.int .i64 (ba c u lang)[k].el,.str (ba c u lang)[k].lang,.str (ba c u lang)[k].text]):=fun k h=>get_map _ _ h;have hEl:((ba c u lang).map eW).length=(ba c u lang).length:=by simp
 generalize ba c u lang=CH at*
 generalize CH.map eW=CA at*
 generalize cP Lib.itoa c root u=nm at*
 have hnm:decide (nm≠ [])=true:=by simpa using h1
 rw [hnm] at w2;unfold wb at w1;generalize (eh Lib.itoa c root lang).map du=AS at*
 clear hk hok h0 h1 hr hnm hval;have u0: ∀x y (M:List (Cell×Nat)) ck l z1,ay cfg (cfg.ti 101) (.bT 2) (.agg [.int .i64 z1,.int .i64 u]) (.bool true) (x::y:: .mp (M.map l9) ck::l)=some (.aL [],.gQ 2 (.mp ((fU M ck (z1,u)).map l9) (eQ M ck (z1,u)))):=fun x y M ck l z1=>MQ (by rfl) (z1,u);have u1: ∀x y (M:List (Cell×Nat)) ck l z1 z2,ay cfg (cfg.ti 101) (.bT 2) (.agg [.int .i64 z1,.int .i64 z2]) (.bool true) (x::y:: .mp (M.map l9) ck::l)=some (.aL [],.gQ 2 (.mp ((fU M ck (z1,z2)).map l9) (eQ M ck (z1,z2)))):=fun x y M ck l z1 z2=>MQ (by rfl) (z1,z2);have u2: ∀x y ck l z1 z2,ay cfg (cfg.ti 101) (.bT 2) (.agg [.int .i64 z1,.int .i64 z2]) (.bool true) (x::y:: .mp [] ck::l)=some (.aL [],.gQ 2 (.mp ((fU [] ck (z1,z2)).map l9) (eQ [] ck (z1,z2)))):=fun x y ck l z1 z2=>MQ (m:= []) (by rfl) (z1,z2);simp only [Ln] at u1 u2;clear u0;unfold b8 eV at*
 generalize aA c.af=L1 at*
 generalize c.aD.map fD=L2 at*
 generalize c.ao.map cj=L3 at*
 have m0:vT [] 0:=⟨by simp,by simp,by simp⟩;have i1:=il (il m0 (1,u)).1 (2,u);have i2:=il (il m0 (2,u)).1 (1,u)
 have i3: ∀y,y∈(fU (fU [] 0 (1,u)) (eQ [] 0 (1,u)) (2,u)).map Prod.fst↔y=(1,u)∨y=(2,u):=fun y=>by
  rw [i1.2,(il m0 (1,u)).2];simp
 have i4: ∀y,y∈(fU (fU [] 0 (2,u)) (eQ [] 0 (2,u)) (1,u)).map Prod.fst↔y=(1,u)∨y=(2,u):=fun y=>by
  rw [i2.2,(il m0 (2,u)).2];simp [or_comm]
 have i5:(fU (fU [] 0 (1,u)) (eQ [] 0 (1,u)) (2,u)).length<=2:=by have:=l5 (fU [] 0 (1,u)) (eQ [] 0 (1,u)) (2,u);have:=l5 [] 0 (1,u);simp at this;omega
 have i6:(fU (fU [] 0 (2,u)) (eQ [] 0 (2,u)) (1,u)).length<=2:=by have:=l5 (fU [] 0 (2,u)) (eQ [] 0 (2,u)) (1,u);have:=l5 [] 0 (2,u);simp at this;omega
 replace i1:=i1.1;replace i2:=i2.1;clear m0;simp (maxSteps:=9^9) (disch:=omega) [-aaO,-aaP,-aaE,-getElem?_pos,-getElem?_neg,om,WA,w1,w2,w3,hEl,ab,gw,u1,u2,tX,l6];refine ⟨?_,?_⟩
 case' refine_1=>
  generalize fU (fU [] 0 (1,u)) (eQ [] 0 (1,u)) (2,u)=M0 at*
  generalize eQ (fU [] 0 (1,u)) (eQ [] 0 (1,u)) (2,u)=ck0 at*
  clear i2 i4 i6
  rename vT M0 ck0=>j1
  rename (∀y,y∈M0.map Prod.fst↔y=(1,u)∨y=(2,u))=>j2
  rename M0.length<=2=>j3
 case' refine_2=>
  generalize fU (fU [] 0 (2,u)) (eQ [] 0 (2,u)) (1,u)=M0 at*
  generalize eQ (fU [] 0 (2,u)) (eQ [] 0 (2,u)) (1,u)=ck0 at*
  clear i1 i3 i5
  rename vT M0 ck0=>j1
  rename (∀y,y∈M0.map Prod.fst↔y=(1,u)∨y=(2,u))=>j2
  rename M0.length<=2=>j3
 all_goals
  clear w1 w2 w3
  refine Wp.aP (fun (a:Nat×List (Cell×Nat)×Nat)=>CH.length-a.1) (fun a=> [none,some (.int .i64 root),some (.str lang),none,some (.ptr 0 0),none,none,none,none,none,some (.bT 2),none,none,none,none,none,none,none,none,none,none,none,none,none,some (.ag nl z CA),some (.int .i64 CH.length),some (.int .i64 a.1),none,none,none,none,none,none,none,none,none,none,none,none,none,none,none,none,none,none]) (fun a=> [.var 26 [.ag c.ln c.lz L1,.ag c.bn c.bz L2,.ag c.sn c.sz L3],.var 49 [.int .i64 root,.str lang,.ag none 3 AS],.mp (a.2.1.map l9) a.2.2])
   (fun a=>vT a.2.1 a.2.2∧sK u CH a.1 a.2.1∧a.2.1.length<=2+5000*a.1∧a.1<=CH.length) ?_ (0,M0,ck0) ⟨j1,fun y=>by rw [j2 y];simp,by simpa using j3,by simp⟩ (by simp) rfl
  rintro ⟨k,M,ck⟩ ⟨q1,q2,q3,q4⟩;simp only at q1 q2 q3 q4⊢;by_cases h3:k<CH.length
  ·have hgk:=hE k h3;have hfk:=hF _ (aa8 h3);obtain rfl:=hz (ne_of_lt h3);have hnx:=fun M1 M2=>sK.next (M1:=M1) (M2:=M2) h3 q2;clear hE;generalize CH[k]=f at*
   obtain ⟨p1,p2⟩:=il q1 (3,f.el);have p3:=l5 M ck (3,f.el);simp (maxSteps:=9^9) (disch:=omega) [-aaO,-aaP,-aaE,-getElem?_pos,-getElem?_neg,om,h3,hgk,ab,u1,tX,l6];generalize fU M ck (3,f.el)=M1 at*
   generalize eQ M ck (3,f.el)=ck1 at*
   refine Wp.aP (fun (a:Nat×List (Cell×Nat)×Nat)=>f.text.length-a.1) (fun a=> [none,some (.int .i64 root),some (.str lang),none,some (.ptr 0 0),none,none,none,none,none,some (.bT 2),some (.ptr 3 0),none,none,none,none,none,none,none,none,none,none,none,none,some (.ag nl 3 CA),some (.int .i64 CH.length),some (.int .i64 k),none,none,none,some (.int .i64 f.text.length),some (.int .i64 a.1),none,none,none,none,none,none,none,none,none,none,none,none,none]) (fun a=> [.var 26 [.ag c.ln c.lz L1,.ag c.bn c.bz L2,.ag c.sn c.sz L3],.var 49 [.int .i64 root,.str lang,.ag none 3 AS],.mp (a.2.1.map l9) a.2.2,.var 76 [.int .i64 f.el,.str f.lang,.str f.text]])
    (fun a=>vT a.2.1 a.2.2∧j7 M1 f.text a.1 a.2.1∧a.2.1.length<=M1.length+a.1∧a.1<=f.text.length) ?_ (0,M1,ck1) ⟨p1,j7.start _ _,by simp,by simp⟩ (by simp) rfl
   rintro ⟨j,M2,ck2⟩ ⟨r1,r2,r3,r4⟩;simp only at r1 r2 r3 r4⊢;have hfl:=hfk.len;by_cases h4:j<f.text.length
   ·have hne:f.text.drop j≠ []:=by simp;omega
    have hct:=BV (f.text.drop j) hne;rw [uW hne] at hct;unfold Al at hct;have htl:(f.text.take f.text.length).drop j=f.text.drop j:=by rw [adn]
    by_cases h5:(aj (f.text.drop j)).2=0
    ·have r5:=r2.skip h5;rw [h5] at hct;generalize (aj (f.text.drop j)).1=pu at*
     clear q2 hnx p2 r2;simp (maxSteps:=9^9) (disch:=omega) [-aaO,-aaP,-aaE,-getElem?_pos,-getElem?_neg,om,h4,hct,htl,tX,l6];exact ⟨j+1,M2,ck2,⟨r1,r5,by omega,by omega⟩,by omega,by simp,rfl,rfl⟩
    ·obtain ⟨t1,t2,t3,t4,t5⟩:=(dt (f.text.drop j)).resolve_left (fun h=>h5 (by rw [h]));have h6:0<(aj (f.text.drop j)).2:=by omega
     obtain ⟨o1,o2⟩:=il r1 (4,(aj (f.text.drop j)).1);have r5:=r2.put h5 o2;have o3:=l5 M2 ck2 (4,(aj (f.text.drop j)).1);generalize (aj (f.text.drop j)).1=pu at*
     generalize (aj (f.text.drop j)).2=pn at*
     clear q2 hnx p2 r2 o2;simp (maxSteps:=9^9) (disch:=omega) [-aaO,-aaP,-aaE,-getElem?_pos,-getElem?_neg,om,h4,hct,htl,h6,ab,u1,tX,l6];exact ⟨j+1,fU M2 ck2 (4,pu),eQ M2 ck2 (4,pu),⟨o1,r5,by omega,by omega⟩,by omega,by simp,rfl,rfl⟩
   ·obtain rfl:j=f.text.length:=by omega
    have r5:=hnx M1 M2 p2 r2;clear q2 hnx p2 r2;simp (maxSteps:=9^9) (disch:=omega) [-aaO,-aaP,-aaE,-getElem?_pos,-getElem?_neg,om,tX,l6];exact ⟨k+1,M2,ck2,⟨r1,r5,by omega,by omega⟩,by omega,by simp,rfl,rfl⟩
  ·obtain rfl:k=CH.length:=by omega
   have hKS: ∀z,z∈M.map Prod.fst↔z∈S:=fun z=>by
    rw [hM z];have:=q2 z
    rwa [adn] at this
   obtain ⟨e1,he1⟩: ∃e,e∈M:=by have:((1,u):Cell)∈M.map Prod.fst:=(hKS _).2 ((hM _).2 (.inr (.inl rfl)));obtain ⟨e,he,_⟩:=aaS.1 this;exact ⟨e,he⟩
   have hsr:=fun l=>EJ q1 hS hKS val (l:=l);have hb:=fun e he=>Pe M 0 e he q1.born;clear hE hF q2 hM hKS hS q1;simp (maxSteps:=9^9) (disch:=omega) [-aaO,-aaP,-aaE,-getElem?_pos,-getElem?_neg,om,tX,l6,mw]
   refine Wp.aP (fun (l:List (Cell×Nat))=>M.length-l.length) (fun l=> [none,some (.int .i64 root),some (.str lang),none,some (.ptr 0 0),none,none,none,none,none,none,none,none,none,none,some (.ax 4 l.length),none,none,none,none,none,none,none,none,none,none,none,none,none,none,none,none,none,none,none,none,some (.lE 3),none,none,none,none,none,none,none,none]) (fun l=> [.var 26 [.ag c.ln c.lz L1,.ag c.bn c.bz L2,.ag c.sn c.sz L3],.var 49 [.int .i64 root,.str lang,.ag none 3 AS],.mp (M.map l9) ck,.iter (.map 2 (l.map Prod.snd) ck),.sl ⟨false,some 99,none⟩ 3 (l.map fun e=>nf (e.1,val e.1))])
    (fun l=>(∀e∈l,e∈M)∧(l.map Prod.snd).Nodup) ?_ [] ⟨by simp,by simp⟩ (by simp) (by simp)
   rintro l ⟨l1,l2⟩;have hll:l.length<=M.length:=mf l2 l1;simp only [Q3];refine Wp.CF (i:=3) (m:=2) (clock:=ck) (seen:=l.map Prod.snd) (es:=M.map l9) rfl rfl rfl ?_ ?_
   ·intro hall;have hall2: ∀e∈M,(l.map Prod.snd).contains e.2=true:=fun e he=>hall (l9 e) (aaS.mpr ⟨e,he,rfl⟩);obtain ⟨s1,s2⟩:=hsr l l1 l2 hall2
    have hl0:l≠ []:=by rintro rfl;have:=hall2 e1 he1;simp at this
    clear hall hall2 hsr hb;have hrd:=zP (l.map fun e=>(e.1,val e.1));rw [ab2] at hrd;have hmm:(nf∘fun e:Cell×Nat=>(e.1,val e.1))=fun e=>nf (e.1,val e.1):=rfl;rw [hmm] at hrd;have hrl:(l.map fun e=>(e.1,val e.1)).length=l.length:=by simp
    have hrn:(l.map fun e=>(e.1,val e.1))≠ []:=by simpa using hl0
    have hEE:(l.map fun e=>nf (e.1,val e.1)).length=l.length:=by simp
    have hSl:(S.map fun z=>(z,val z)).length=l.length:=by rw [<-s2];simp [q8]
    generalize hR:(l.map fun e=>(e.1,val e.1))=R at*
    generalize hS2:(S.map fun z=>(z,val z))=S2 at*
    generalize (l.map fun e=>nf (e.1,val e.1))=EE at*
    have hg:vL [.ax 4 l.length,.fn 115 [] []] [.var 26 [.ag c.ln c.lz L1,.ag c.bn c.bz L2,.ag c.sn c.sz L3],.var 49 [.int .i64 root,.str lang,.ag none 3 AS],.mp (M.map l9) ck,.iter (.map 2 (l.map Prod.snd) ck),.sl ⟨false,some 99,none⟩ 3 EE]=some (.aL [], [.var 26 [.ag c.ln c.lz L1,.ag c.bn c.bz L2,.ag c.sn c.sz L3],.var 49 [.int .i64 root,.str lang,.ag none 3 AS],.mp (M.map l9) ck,.iter (.map 2 (l.map Prod.snd) ck),.sl ⟨false,some 99,none⟩ 3 (S2.map nf)]):=by
     have hm1:l.length<1000000:=by omega
     simp [vL,ad.at,hrd,hrl,hrn,hm1,s1,s2]
    clear hrd hmm s1 s2 hR;have hSm:(S2.map nf).length=l.length:=by rw [List.length_map];exact hSl
    generalize hS3:S2.map nf=S3 at*
    simp (maxSteps:=9^9) (disch:=omega) [-aaO,-aaP,-aaE,-getElem?_pos,-getElem?_neg,om,tX,l6,hg,hEE,hSm];rw [<-hS3,<-hS2,ab2]
   ·intro e he hn;obtain ⟨e0,he0,rfl⟩:=aaS.1 he;obtain ⟨j,hj⟩:=hb e0 he0;have hv:=wv e0.1;clear hsr hb he wv;obtain ⟨⟨z1,z2⟩,n⟩:=e0;replace hj:uj (n:Int) (M.map l9) 0=some (j,(.agg [.int .i64 z1,.int .i64 z2],.bool true,n)):=hj;simp only at hv;have hEE:(l.map fun e=>nf (e.1,val e.1)).length=l.length:=by simp
    simp (maxSteps:=9^9) (disch:=omega) [-aaO,-aaP,-aaE,-getElem?_pos,-getElem?_neg,om,tX,l6,l9,nF,nN,hj,hv,hEE,ab]
    have hsub: ∀e∈l++ [((z1,z2),n)],e∈M:=fun e hm=>by
     rcases abN.1 hm with hm | hm
     ·exact l1 _ hm
     ·rw [adl] at hm;rw [hm];exact he0
    have hnd:((l++ [((z1,z2),n)]).map Prod.snd).Nodup:=by rw [List.map_append];refine List.nodup_append.mpr ⟨l2,by simp,fun a ha b hb=> ?_⟩;simp only [List.map_cons,aaN,adl] at hb;rintro rfl;have hn2:(l.map Prod.snd).contains n=false:=hn;rw [hb] at ha;rw [<-List.contains_iff_mem,hn2] at ha;cases ha
    have hle:=mf hnd hsub;rw [aba,ac4] at hle;refine ⟨l++ [((z1,z2),n)],⟨fun a b q hm=>hsub _ hm,hnd⟩,?_,by simp,by simp,by simp [nf]⟩;rw [aba,ac4];omega
set_option maxHeartbeats 4000000
theorem Hp (a b:Cell):aq cfg 116 [nF a,nF b] []=some (.int .i64 (gr a b), []):=by
 refine aa WB R7 ?_;have c1:=vv a.1 b.1;have c2:=vv a.2 b.2;have c3:=EG none (jA a.1 b.1) (jA a.2 b.2);have e:gr a b=if jA a.1 b.1=0 then jA a.2 b.2 else jA a.1 b.1:=rfl;rw [e];unfold nF;generalize (if jA a.1 b.1=0 then jA a.2 b.2 else jA a.1 b.1)=r at*
 generalize jA a.1 b.1=r1 at*
 generalize jA a.2 b.2=r2 at*
 simp (maxSteps:=9^9) (disch:=omega) [-aaO,-aaP,-aaE,-getElem?_pos,-getElem?_neg,om,PQ,c1,c2,c3]
theorem Om (r:Cell×ae) (x:Cell):aq cfg 175 [nf r,nF x] []=some (.int .i64 (gr r.1 x), []):=by
 refine aa WC R8 ?_;have c1:=Hp r.1 x;unfold nf;unfold nF at*
 simp (maxSteps:=9^9) (disch:=omega) [-aaO,-aaP,-aaE,-getElem?_pos,-getElem?_neg,om,PR,c1]
theorem Bq {l:List (Cell×ae)} (h:gq (l.map Prod.fst)): ∀(i j:Nat) (a b:Cell×ae),i<j->l[i]?=some a->l[j]?=some b->fY a.1 b.1=true:=by
 induction l with
 | nil=>intro i j a b _ h1;cases h1
 | cons x r ih=>
  intro i j a b hij h1 h2;cases i with
  | zero=>
   cases h1;cases j with
   | zero=>omega
   | succ j=>exact h.1 b.1 (aaS.2 ⟨b,List.mem_of_getElem? (by simpa using h2),rfl⟩)
  | succ i=>
   cases j with
   | zero=>omega
   | succ j=>exact ih h.2 i j a b (by omega) (by simpa using h1) (by simpa using h2)
structure Cut (l:List (Cell×ae)) (c:Cell) (i j:Nat):Prop where
 lo: ∀k r,k<i->l[k]?=some r->fY r.1 c=true
 hi: ∀k r,j<=k->l[k]?=some r-> ¬ fY r.1 c=true
theorem Cut.left {l:List (Cell×ae)} {c:Cell} {i j h:Nat} (hc:Cut l c i j) (hi:gq (l.map Prod.fst)) {r:Cell×ae} (hr:l[h]?=some r) (hb:fY r.1 c=true):Cut l c (h+1) j:=⟨fun k q hk hq=>by
  by_cases e:k=h
  ·subst e;rw [hr] at hq;cases hq;exact hb
  ·exact fk (Bq hi k h q r (by omega) hq hr) hb,hc.hi⟩
theorem Cut.right {l:List (Cell×ae)} {c:Cell} {i j h:Nat} (hc:Cut l c i j) (hi:gq (l.map Prod.fst)) {r:Cell×ae} (hr:l[h]?=some r) (hb: ¬ fY r.1 c=true):Cut l c i h:=⟨hc.lo,fun k q hk hq=>by
  by_cases e:k=h
  ·subst e;rw [hr] at hq;cases hq;exact hb
  ·exact fun hq2=>hb (fk (Bq hi h k r q (by omega) hr hq) hq2)⟩
theorem zQ (nl:Option Bool) (z:Nat) (l:List (Cell×ae)) (hz:l≠ []->z=3) (hl:l.length<1000000) (hi:gq (l.map Prod.fst)) (c:Cell):
  ∃i:Nat,aq cfg 174 [.ag nl z (aN l),nF c,.fn 175 [] []] []=some (.aL [.int .i64 i,.bool (aw l c).isSome], [])∧ ∀t,aw l c=some t->i<l.length∧ ∃r,l[i]?=some r∧r.2=t:=by
 obtain ⟨i0,hi0,hl0⟩: ∃i0,i0<=l.length∧Cut l c i0 i0:=by
  have: ∀n,n<=l.length-> ∃i0,i0<=l.length∧(∀k r,k<i0->l[k]?=some r->fY r.1 c=true)∧(i0<l.length->n<=i0∨ ∃r,l[i0]?=some r∧ ¬ fY r.1 c=true):=by
   intro n
   induction n with
   | zero=>exact fun _=>⟨0,by omega,fun k r hk=>by omega,fun _=> .inl (by omega)⟩
   | succ n ih=>
    intro hn;obtain ⟨i0,h1,h2,h3⟩:=ih (by omega);by_cases hlt:i0<l.length
    ·rcases h3 hlt with h4 | h4
     ·have hr:l[i0]?=some l[i0]:=aaF hlt;by_cases hb:fY l[i0].1 c=true
      ·refine ⟨i0+1,by omega,fun k r hk hq=> ?_,fun _=> .inl (by omega)⟩;by_cases e:k=i0
       ·subst e;rw [hr] at hq;cases hq;exact hb
       ·exact h2 k r (by omega) hq
      ·exact ⟨i0,h1,h2,fun _=> .inr ⟨_,hr,hb⟩⟩
     ·exact ⟨i0,h1,h2,fun _=> .inr h4⟩
    ·exact ⟨i0,h1,h2,fun h=>absurd h hlt⟩
  obtain ⟨i0,h1,h2,h3⟩:=this l.length (aa0 _);refine ⟨i0,h1,h2,fun k r hk hq=> ?_⟩
  have hkl:k<l.length:=by
   rcases abm k l.length with h | h
   ·exact h
   ·rw [abv h] at hq;cases hq
  rcases h3 (by omega) with h4 | ⟨r0,h4,h5⟩
  ·omega
  ·by_cases e:k=i0
   ·subst e;rw [h4] at hq;cases hq;exact h5
   ·exact fun hb=>h5 (fk (Bq hi i0 k r0 r (by omega) h4 hq) hb)
 have hat:=Hk l i0 hi hl0.lo hl0.hi;refine ⟨i0,?_,fun t ht=> ?_⟩
 case refine_2=>
  rw [ht] at hat;cases hr:l[i0]? with
  | none=>rw [hr] at hat;cases hat
  | some r=>
   rw [hr] at hat;simp only at hat;split at hat
   ·cases hat;refine ⟨?_,r,rfl,rfl⟩;rcases abm i0 l.length with h | h
    ·exact h
    ·rw [abv h] at hr;cases hr
   ·cases hat
 refine aa WD R9 ?_;have hE: ∀k (h:k<l.length),(aN l)[k]?=some (.agg [.int .i64 l[k].1.1,.int .i64 l[k].1.2,.str l[k].2]):=fun k h=>get_map _ _ h;have hEl:(aN l).length=l.length:=by simp [aN]
 generalize aN l=E at*
 have hg1:=fun r=>Om r c;unfold nf at hg1;unfold nF at*
 simp (maxSteps:=9^9) (disch:=omega) [-aaO,-aaP,-aaE,-getElem?_pos,-getElem?_neg,om,PS,hEl];refine Wp.aP (fun (a:Nat×Nat)=>a.2-a.1) (fun a=> [some (.ag nl z E),none,some (.fn 175 [] []),some (.ptr 0 0),none,none,some (.int .i64 l.length),some (.int .i64 a.1),some (.int .i64 a.2),none,none,none,none,none]) (fun _=> [.var 78 [.int .i64 c.1,.int .i64 c.2]]) (fun a=>a.1<=i0∧i0<=a.2∧a.2<=l.length) ?_ (0,l.length) ⟨by simp,hi0,by simp⟩ (by simp) rfl;rintro ⟨i,j⟩ ⟨h1,h2,h3⟩;simp only at h1 h2 h3⊢;by_cases hij:i<j
 ·obtain ⟨h,hdef⟩: ∃h,h=(i+j) / 2:=⟨_,rfl⟩;have hh:h<l.length:=by omega
  have hgh:=hE h hh;obtain rfl:=hz (ne_of_lt hh);have hr:l[h]?=some l[h]:=aaF hh;have hgc:=hg1 l[h];have hlt:=fQ l[h].1 c;have hd1:h<i0->fY l[h].1 c=true:=fun q=>hl0.lo _ _ q hr;have hd2:i0<=h-> ¬ fY l[h].1 c=true:=fun q=>hl0.hi _ _ q hr;generalize l[h]=r at*
  have w1:IntKind.u64.wrap ((i:Int)+(j:Int))=(i:Int)+(j:Int):=by show ((i:Int)+(j:Int))%18446744073709551616=_;omega
  have w2:IntKind.i64.wrap ((i:Int)+(j:Int))=(i:Int)+(j:Int):=wrap_i64 (by omega) (by omega)
  have w3:((i:Int)+(j:Int)).fdiv (2^min 1 IntKind.u64.bits)=(h:Int):=by show ((i:Int)+(j:Int)).fdiv 2=(h:Int);rw [Int.fdiv_eq_ediv_of_nonneg _ (by omega)];omega
  have w4:IntKind.i64.wrap (h:Int)=(h:Int):=wrap_i64 (by omega) (by omega);have b1:i<=h:=by omega
  have b2:h<j:=by omega
  clear hE hg1 hr hdef;obtain ⟨⟨r1,r2⟩,t⟩:=r;simp only at*
  generalize gr (r1,r2) c=cc at*
  by_cases hcc:cc<0
  ·have hb:=hlt.1 hcc;simp (maxSteps:=9^9) (disch:=omega) [-aaO,-aaP,-aaE,-getElem?_pos,-getElem?_neg,om,hij,hgh,hEl,w1,w2,w3,w4,hgc,hcc];refine ⟨h+1,j,⟨?_,by omega,by omega⟩,by omega,by simp⟩;rcases abm h i0 with q | q
   ·omega
   ·exact absurd hb (hd2 q)
  ·simp (maxSteps:=9^9) (disch:=omega) [-aaO,-aaP,-aaE,-getElem?_pos,-getElem?_neg,om,hij,hgh,hEl,w1,w2,w3,w4,hgc,hcc];refine ⟨i,h,⟨by omega,?_,by omega⟩,by omega,by simp⟩;rcases abm h i0 with q | q
   ·exact absurd (hlt.2 (hd1 q)) hcc
   ·exact q
 ·obtain rfl:j=i0:=by omega
  obtain rfl:i=j:=by omega
  by_cases hlt:i<l.length
  ·have hgh:=hE i hlt;obtain rfl:=hz (ne_of_lt hlt);have hr:l[i]?=some l[i]:=aaF hlt;have hgc:=hg1 l[i];have hz0:=IS l[i].1 c;rw [hr] at hat;generalize l[i]=r at*
   clear hE hg1 hr;obtain ⟨⟨r1,r2⟩,t⟩:=r;simp only at*
   rw [hat];generalize gr (r1,r2) c=cc at*
   by_cases hcc:cc=0
   ·rw [if_pos (hz0.1 hcc)];simp (maxSteps:=9^9) (disch:=omega) [-aaO,-aaP,-aaE,-getElem?_pos,-getElem?_neg,om,hlt,hgh,hEl,hgc,hcc]
   ·rw [if_neg (fun q=>hcc (hz0.2 q))];have hcc2:(cc==0)=false:=by simpa using hcc
    simp (maxSteps:=9^9) (disch:=omega) [-aaO,-aaP,-aaE,-getElem?_pos,-getElem?_neg,om,hlt,hgh,hEl,hgc,hcc,hcc2]
  ·rw [abv (by omega)] at hat;rw [hat];simp (maxSteps:=9^9) (disch:=omega) [-aaO,-aaP,-aaE,-getElem?_pos,-getElem?_neg,om,hlt,hEl]
theorem Gb {B:List ad} {k:Nat} {nl:Option Bool} {z:Nat} {l:List (Cell×ae)} {lk:Bool} (hB:ad.at B k= .var 166 [.ag nl z (aN l),.bool lk]) (hk:k<B.length) (hs:shut B.length B=true) (hz:l≠ []->z=3) (hl:l.length<1000000) (hi:gq (l.map Prod.fst)) (kd u:Int):
  aq cfg 132 [.ptr k 0,.int .i64 kd,.int .i64 u] B=some (.str ((aw l (kd,u)).getD []),B.set k (.var 166 [.ag nl z (aN l),.bool (lk || (aw l (kd,u)).isNone)])):=by
 refine aa PT Lo ?_;obtain ⟨i,h1,h2⟩:=zQ nl z l hz hl hi (kd,u);unfold nF at h1;simp only at h1;have hE: ∀k (h:k<l.length),(aN l)[k]?=some (.agg [.int .i64 l[k].1.1,.int .i64 l[k].1.2,.str l[k].2]):=fun k h=>get_map _ _ h;have hEl:(aN l).length=l.length:=by simp [aN]
 have hpl:=aO l;have hm:=shut_map (aa0 B.length) hs;have hks:=eX k hs (x:= .var 166 [.ag nl z (aN l),.bool true]) (by simp [shut,ar,AV.under]);have hm2:=shut_map (aa0 B.length) hks;cases hq:aw l (kd,u) with
 | none=>
  rw [hq] at h1;generalize aN l=E at*
  have e1:(lk || (none:Option ae).isNone)=true:=by simp
  rw [e1];simp (maxSteps:=9^9) (disch:=omega) [-aaO,-aaP,-aaE,-getElem?_pos,-getElem?_neg,om,Hq,hB,hk,h1,hm,hm2,hpl,ab]
 | some t=>
  rw [hq] at h1;obtain ⟨h3,r,h4,h5⟩:=h2 t hq;have hgi:=hE i h3;obtain rfl:=hz (ne_of_lt h3);have hri:l[i]=r:=by rw [aaF h3] at h4;cases h4;rfl
  rw [hri] at hgi
  have e:B.set k (.var 166 [.ag nl 3 (aN l),.bool (lk || (some t).isNone)])=B:=by
   have e1:(lk || (some t).isNone)=lk:=by simp
   rw [e1,<-hB];apply List.ext_getElem?;intro i;by_cases hi:i=k
   ·subst hi;simp [ad.at,hk,aaE]
   ·rw [List.getElem?_set_ne (Ne.symm hi)]
  rw [e];generalize aN l=E at*
  clear h2 hE h4 hri e;subst h5;simp (maxSteps:=9^9) (disch:=omega) [-aaO,-aaP,-aaE,-getElem?_pos,-getElem?_neg,om,Hq,hB,hk,h1,hm,hgi,hpl,ab]
set_option maxHeartbeats 8000000
def D8 (B:List ad) (k:Nat) (nl:Option Bool) (z:Nat) (l:List (Cell×ae)) (lk:Bool):List ad:=B.set k (.var 166 [.ag nl z (aN l),.bool lk])
theorem kS (B:List ad) (k:Nat) (nl:Option Bool) (z:Nat) (l:List (Cell×ae)) (lk:Bool):(D8 B k nl z l lk).length=B.length:=by simp [D8]
theorem xU {B:List ad} {k:Nat} {nl:Option Bool} {z:Nat} {l:List (Cell×ae)} {lk:Bool} (hs:shut B.length B=true):shut B.length (D8 B k nl z l lk)=true:=eX k hs (by simp [shut,ar,AV.under])
structure Fl where
 b:Bool
def Uk (x y:Bool):Prop:=x=y
theorem Lp {B:List ad} {k:Nat} {nl:Option Bool} {z:Nat} {l:List (Cell×ae)} (hk:k<B.length) (hs:shut B.length B=true) (hz:l≠ []->z=3) (hl:l.length<1000000) (hi:gq (l.map Prod.fst)) (hv: ∀u,((aw l (4,u)).getD []).length<=1000) (s:ae) (hsl:s.length<=10000) (lk0:Bool):
  aq cfg 135 [.ptr k 0,.str s] (D8 B k nl z l lk0)=some (.str (aC (fun u=>aw l (4,u)) s).1,D8 B k nl z l (lk0 || (aC (fun u=>aw l (4,u)) s).2)):=by
 have hget: ∀(lk:Bool) (a:AV) (out:ae) (u:Int),(a= .bZ∨a= .ptr B.length 0)->aq cfg 132 [.ptr k 0,.int .i64 4,.int .i64 u] (bp (D8 B k nl z l lk) a out)=some (.str ((aw l (4,u)).getD []),bp (D8 B k nl z l (lk || (aw l (4,u)).isNone)) a out):=fun lk a out u ha=>by
  have hbl:=g7 (bs:=D8 B k nl z l lk) (by rw [kS];exact xU hs) (a:=a) (by rw [kS];exact ha) out
  have h:=Gb (B:=bp (D8 B k nl z l lk) a out) (k:=k) (nl:=nl) (z:=z) (l:=l) (lk:=lk) (by
   unfold bp;rw [fG _ _ (by rw [kS];exact hk)];unfold D8;rw [Go.Am.bC _ _ _ hk,if_pos rfl]) (by unfold bp;simp [kS];omega) hbl.sh hz hl hi 4 u
  rw [h];congr 2;unfold bp;rw [List.set_append_left _ _ (by rw [kS];exact hk),kS,kS];unfold D8;rw [List.set_set]
 refine aa WE Sa ?_;have hBn: ∀lk,(D8 B k nl z l lk).length=B.length:=fun lk=>kS ..
 have hsh: ∀lk,shut (D8 B k nl z l lk).length (D8 B k nl z l lk)=true:=fun lk=>by rw [hBn];exact xU hs
 have hm:=fun lk=>shut_map (aa0 _) (hsh lk);have hlk0: ∀e,shut B.length (D8 B k nl z l e)=true:=fun e=>xU hs;generalize hlook:(fun u=>aw l (4,u))=look at*
 have hlk: ∀u,aw l (4,u)=look u:=fun u=>by rw [<-hlook]
 simp only [hlk] at hget hv;clear hlk hlook;generalize hK:D8 B k nl z l=K at*
 generalize hn0:B.length=n0 at*
 obtain ⟨f0,f1,f2,f3,s0,s1,s2,s3,b0,b1,b2,b3,tk⟩:=Qu (hBn lk0);simp (maxSteps:=9^9) (disch:=omega) [-aaO,-aaP,-aaE,-getElem?_pos,-getElem?_neg,om,PU,hBn,f0,f1,f2,f3,s0,s1,s2,s3,b0,b1,b2,b3,tk];clear f0 f1 f2 f3 s0 s1 s2 s3 b0 b1 b2 b3 tk;refine Wp.aP (fun (a:Nat×ae×AV×Fl)=>s.length-a.1) (fun a=> [some (.ptr k 0),some (.str s),none,some (.ptr n0 0),some (.int .i64 a.1),none,none,none,none,none,none,none]) (fun a=>bp (K a.2.2.2.b) a.2.2.1 a.2.1) (fun a=>(aC look s).1=a.2.1++(aC look (s.drop a.1)).1∧Uk (lk0 || (aC look s).2) (a.2.2.2.b || (aC look (s.drop a.1)).2)∧a.1<=s.length∧a.2.1.length<=1000*a.1∧(a.2.2.1= .bZ∨a.2.2.1= .ptr n0 0)) ?_ (0, [],.bZ,⟨lk0⟩) ⟨by simp,rfl,by simp,by simp,.inl rfl⟩ (by simp) (by simp [bp,hBn]);rintro ⟨i,out,a,⟨lk⟩⟩ ⟨hi,hi2,hil,hol,ha⟩;simp only at hi hi2 hil hol ha⊢;have hi3:(lk0 || (aC look s).2)=(lk || (aC look (s.drop i)).2):=hi2;rw [hi,hi3];clear hi hi2 hi3;have hbl:=g7 (hsh lk) (by rw [hBn];exact ha) out;rw [hBn] at hbl;have hBl: ∀lk a out,(bp (K lk) a out).length=n0+2:=fun lk a out=>by simp [bp,hBn]
 by_cases h1:i<s.length
 ·have hg:s[i]?=some (s.getD i 0):=by simp [aaE,h1]
  have hwb:=qX hbl (s.getD i 0) (by omega)
  have hst:iX (bp (K lk) a out) n0 (n0+1)=fun t=>bp (K lk) (.ptr n0 0) t:=by funext t;have:=js (bs:=K lk) (a:=a) (s:=out) (t:=t);rw [hBn] at this;exact this
  rw [hst] at hwb;have hd:=JJ s h1;have htl:(s.take s.length).drop i=s.drop i:=by rw [adn]
  have hne:s.drop i≠ []:=by rw [hd];simp
  have hu:=BV (s.drop i) hne;rw [uW hne] at hu;unfold Al at hu;by_cases hp:(aj (s.drop i)).2=0
  ·have he:aC look (s.drop i)=(s.getD i 0::(aC look (s.drop (i+1))).1,(aC look (s.drop (i+1))).2):=by rw [hd];exact mY look _ _ (by rw [<-hd];exact hp)
   rw [he];rw [hp] at hu;generalize (aj (s.drop i)).1=p1 at*
   generalize s.getD i 0=c at*
   have hk2:=hBl lk a out;have hk3:=hBl lk (.ptr n0 0) (out++ [c]);clear hd hp hget hbl hBl hst he;generalize hB2:bp (K lk) a out=B2 at*
   simp (maxSteps:=9^9) (disch:=omega) [-aaO,-aaP,-aaE,-getElem?_pos,-getElem?_neg,om,h1,hg,ak,hu,htl,hwb,hk2,hk3];exact ⟨i+1,out++ [c],.ptr n0 0,⟨lk⟩,⟨by simp,rfl,by omega,by simp;omega,.inr rfl⟩,by omega,by simp,rfl⟩
  ·obtain ⟨q1,q2,q3,q4,q5⟩:=(dt (s.drop i)).resolve_left (fun h=>hp (by rw [h]));have he:=lr look (s.drop i) hp;have hw:=hget lk a out (aj (s.drop i)).1 ha;have hnx:=hv (aj (s.drop i)).1;have hbl2:=g7 (hsh (lk || (look (aj (s.drop i)).1).isNone)) (by rw [hBn];exact ha) out;rw [hBn] at hbl2;have hws:=iB hbl2 ((look (aj (s.drop i)).1).getD []) (by omega) (by omega)
   have hst2:iX (bp (K (lk || (look (aj (s.drop i)).1).isNone)) a out) n0 (n0+1)=fun t=>bp (K (lk || (look (aj (s.drop i)).1).isNone)) (.ptr n0 0) t:=by funext t;have:=js (bs:=K (lk || (look (aj (s.drop i)).1).isNone)) (a:=a) (s:=out) (t:=t);rw [hBn] at this;exact this
   rw [hst2] at hws;obtain ⟨n,hn⟩: ∃n:Nat,(aj (s.drop i)).2=n:=⟨(aj (s.drop i)).2.toNat,by omega⟩;rw [hn] at hu he q3 q4;rw [aa5,List.drop_drop] at he;have q4':i+n<=s.length:=by simp at q4;omega
   have q3':0<n:=by omega
   have he2:aC look (s.drop i)=((look (aj (s.drop i)).1).getD []++(aC look (s.drop (i+n))).1,((look (aj (s.drop i)).1).isNone || (aC look (s.drop (i+n))).2)):=by rw [he];cases look (aj (s.drop i)).1 <;> simp
   rw [he2];generalize (look (aj (s.drop i)).1).getD []=x at*
   generalize (look (aj (s.drop i)).1).isNone=no at*
   generalize (aj (s.drop i)).1=p1 at*
   have hk2:=hBl lk a out;have hk3:=hBl (lk || no) (.ptr n0 0) (out++x);have hk4:=hBl (lk || no) a out;clear hd hp hget hbl hbl2 hBl hst hst2 he he2 hwb q1 q2 q3 q4 q5 hn;generalize hB2:bp (K lk) a out=B2 at*
   generalize hB3:bp (K (lk || no)) a out=B3 at*
   simp (maxSteps:=9^9) (disch:=omega) [-aaO,-aaP,-aaE,-getElem?_pos,-getElem?_neg,om,h1,hu,htl,hw,hws,hk2,hk3,hk4,q3'];exact ⟨i+n,out++x,.ptr n0 0,⟨lk || no⟩,⟨by simp,by simp [Uk,Bool.or_assoc],by omega,by simp;omega,.inr rfl⟩,by omega,by simp,rfl⟩
 ·rw [aaC (by omega),kP,aa3,Bool.or_false];have hfin:(bp (K lk) a out).take n0=K lk:=by unfold bp;rw [<-hBn lk];exact aaZ rfl
  by_cases h0:out= []
  ·subst h0;have hst:=ui hbl;have hfs:((bp (K lk) a []).set (n0+1) (.sl ⟨false,none,none⟩ 1 [])).take n0=K lk:=by unfold bp;rw [<-hBn lk,cX];exact aaZ rfl
   have hk2:=hBl lk a [];have hmm:=hm lk;rw [hBn] at hmm;generalize bp (K lk) a []=B2 at*
   clear hget hsh hm hlk0 hBl;simp (maxSteps:=9^9) (disch:=omega) [-aaO,-aaP,-aaE,-getElem?_pos,-getElem?_neg,om,h1,hst,hfs,hmm,hk2,hBn]
  ·have hst:=qb hbl (by omega) h0;have hfs:((bp (K lk) a out).set (n0+1) (.sl ⟨false,none,none⟩ 1 (out.map ak))).take n0=K lk:=by unfold bp;rw [<-hBn lk,cX];exact aaZ rfl
   have hk2:=hBl lk a out;have hmm:=hm lk;rw [hBn] at hmm;generalize bp (K lk) a out=B2 at*
   clear hget hsh hm hlk0 hBl;simp (maxSteps:=9^9) (disch:=omega) [-aaO,-aaP,-aaE,-getElem?_pos,-getElem?_neg,om,h1,hst,hfs,hmm,hk2,hBn]
end Go.Proofs.YtfgbpngakkhdcaaGreatDoor
