/- Kept finding aids as the machine's values. -/
import Derived.Test.YtfgbpngakkhdcaaGreatDoorLsM
open Bool renaming false->ι,true->ν,and_eq_true->ϖ,eq_iff_iff->ϋ,false_and->ώ,false_eq_true->ϑ,not_eq_true'->Υ,true_and->ϟ
open Go.Am.AV renaming aC->ό,aK->Ϟ,agg->Δ,ah->κ,bool->φ,int->T,ptr->Ζ,str->Z
open Go.Am.af renaming dead->ϣ,sl->Ξ,var->ο
open Go.IntKind renaming i64->Q
open Go.Lib renaming itoa->P
open List renaming length->Ê,all_eq_false->ϓ,all_eq_true->Ψ,any_cons->Ϡ,append_nil->Λ,cons_append->ϗ,drop_eq_getElem_cons->W,drop_eq_nil_of_le->δ,eraseIdx_eq_take_drop_succ->τ,filter_append->ϐ,find?_cons->Α,find?_some->ϛ,getD_eq_getElem?_getD->C,getElem_mem->θ,length_cons->π,length_drop->Ϙ,length_eraseIdx_le->Χ,length_filter_le->ύ,length_map->η,length_nil->Ϝ,length_take->μ,map_append->ε,map_cons->Θ,map_drop->ϡ,map_map->ψ,map_nil->Ν,map_replicate->G,map_set->H,mem_append->Β,mem_flatMap->ϙ,mem_map->Ω,mem_of_find?_eq_some->ω,mem_of_getElem?->Ϗ,mem_of_mem_eraseIdx->Φ,mem_of_mem_take->Ι,mem_singleton->Ε,nodup_append->Τ,nodup_nil->Ο,range->Η,take_add_one->ϒ,take_length->γ,take_succ_eq_append_getElem->U
open List.cons renaming injEq->ϊ
open Nat renaming le_refl->Ϣ
open Option renaming none->K,some->O
open Prod renaming fst->Y,snd->ϔ
open _root_ renaming Bool->Ρ,List->X,Nat->σ,Option->υ,absurd->Ϛ,bne_eq_false_iff_eq->Μ,bne_iff_ne->ϝ,decide_eq_false->Γ,decide_eq_false_iff_not->ζ,decide_eq_true->χ,decide_eq_true_eq->ξ,getElem?_neg->J,getElem?_pos->I,if_neg->ρ,if_pos->Κ,if_true->ϕ
set_option linter.all false
namespace Go.Proofs.YtfgbpngakkhdcaaGreatDoor
open Go.Am Go.ChangeShapes Go.WideShapes Go.RowKit
set_option maxRecDepth 10000
set_option maxHeartbeats 4000000
structure Me where
 c:Mm
 rn:υ Ρ
 rz:σ
 nn:υ Ρ
 nz:σ
def cV (m:Me):AV:= Δ [κ m.rn m.rz (aN m.c.1),T Q m.c.2.unit,Z m.c.2.num,κ m.nn m.nz (m.c.2.nodes.map dF)]
structure Me.ok (m:Me):Prop where
 rz:m.c.1≠ []->m.rz=3
 nz:m.c.2.nodes≠ []->m.nz=3
 rl:m.c.1.length<1000000
 nl:m.c.2.nodes.length<1000000
structure Me.Af (m:Me):Prop where
 rz:m.c.1≠ []->m.rz=3
 nz:m.c.2.nodes≠ []->m.nz=3
 rl:m.c.1.length<=maxLen
 nl:m.c.2.nodes.length<=maxLen
structure Kp where
 unit:Int
 lang:ae
 b8:X Me
 mn:υ Ρ
 mz:σ
def Kp.cs (k:Kp):X Mm:=k.b8.map Me.c
def wV (k:Kp):X AV:= [T Q k.unit,Z k.lang,κ k.mn k.mz (k.b8.map cV)]
def ja (k:Kp):AV:= Δ (wV k)
structure Kp.ok (k:Kp):Prop where
 mz:k.b8≠ []->k.mz=4
 ml:k.b8.length<1000000
 me: ∀m∈k.b8,m.ok
structure Kp.Af (k:Kp):Prop where
 mz:k.b8≠ []->k.mz=4
 ml:k.b8.length<=maxLen
 ll:k.lang.length<=maxLen
 me: ∀m∈k.b8,m.Af
@[simp] theorem bE: ∀(l:X Me),ak (l.map cV)=ν
 | []=>rfl
 | x::r=>by simp [ak,cV,AV.plain,bE r,aS,aM]
theorem Pf {m:σ} {cs:X AV} (h:ot Tryz.prog m 129 cs): ∃n:Nd,True/\aR (jL (Tryz.prog.underlying 129)) cs=dF n:=by
 have č:Tryz.prog.underlying 129=O (.struct (aG Tryz.prog 129)):=by kernel_rfl
 have ņ:(aG Tryz.prog 129).toList.map (·.type)= [3,9,9]:=by kernel_rfl
 obtain ⟨m,hs⟩:=h.struct č;rw [ņ] at hs;obtain ⟨a,r,rfl,ha,b,r2,rfl,hb,c,r3,rfl,hc,rfl⟩:=hs;obtain ⟨x,rfl,_⟩:=ha.int (k:= Q) (by kernel_rfl);obtain ⟨s,rfl,_⟩:=hb.str (by kernel_rfl);obtain ⟨t,rfl,_⟩:=hc.str (by kernel_rfl);exact ⟨⟨x,s,t⟩,trivial,by rw [č];rfl⟩
theorem Pg {m:σ} {cs:X AV} (h:ot Tryz.prog m 60 cs): ∃n:Me,n.Af/\aR (jL (Tryz.prog.underlying 60)) cs=cV n:=by
 have č:Tryz.prog.underlying 60=O (.struct (aG Tryz.prog 60)):=by kernel_rfl
 have ņ:(aG Tryz.prog 60).toList.map (·.type)= [55,58]:=by kernel_rfl
 have Ŧ:Tryz.prog.underlying 58=O (.struct (aG Tryz.prog 58)):=by kernel_rfl
 have ŧ:(aG Tryz.prog 58).toList.map (·.type)= [3,9,56]:=by kernel_rfl
 obtain ⟨m,hs⟩:=h.struct č;rw [ņ] at hs;obtain ⟨a,r,rfl,ha,b,r2,rfl,hb,rfl⟩:=hs;obtain ⟨m2,ś⟩:=hb.struct Ŧ;rw [ŧ] at ś;obtain ⟨c,r3,rfl,hc,d,r4,rfl,hd,e,r5,rfl,he,rfl⟩:=ś;obtain ⟨n1,z1,l1,rfl,p1,q1,s1,_⟩:=ha.ki (e:=99) lR (fun _=>True) (by kernel_rfl) 3 (by kernel_rfl) (by decide) (fun m cs h=>OB h);obtain ⟨x,rfl,_⟩:=hc.int (k:= Q) (by kernel_rfl);obtain ⟨s,rfl,_⟩:=hd.str (by kernel_rfl);obtain ⟨n2,z2,l2,rfl,p2,q2,s2,_⟩:=he.ki (e:=129) dF (fun _=>True) (by kernel_rfl) 3 (by kernel_rfl) (by decide) (fun m cs h=>Pf h);exact ⟨⟨(l1,⟨x,s,l2⟩),O n1,z1,O n2,z2⟩,⟨fun hl=>p1 0 (List.length_pos_iff.2 hl),fun hl=>p2 0 (List.length_pos_iff.2 hl),s1,s2⟩,by rw [č];rfl⟩
theorem RF {ts:X TypeId} {xs:X AV} (h:gl Tryz.prog (31::ts) xs): ∃(k:Kp) (r:X AV),xs=ja k::r/\k.Af/\gl Tryz.prog ts r:=by
 obtain ⟨n,cs,r,rfl,h1,h2⟩:=h;have č:Tryz.prog.underlying 31=O (.struct (aG Tryz.prog 31)):=by kernel_rfl
 have ņ:(aG Tryz.prog 31).toList.map (·.type)= [3,9,29]:=by kernel_rfl
 obtain ⟨m,hs⟩:=h1.struct č;rw [ņ] at hs;obtain ⟨a,r1,rfl,ha,b,r2,rfl,hb,c,r3,rfl,hc,rfl⟩:=hs;obtain ⟨x,rfl,_⟩:=ha.int (k:= Q) (by kernel_rfl);obtain ⟨s,rfl,ļ⟩:=hb.str (by kernel_rfl);obtain ⟨n3,z3,l3,rfl,p3,q3,s3,t3⟩:=hc.ki (e:=60) cV Me.Af (by kernel_rfl) 4 (by kernel_rfl) (by decide) (fun m cs h=>Pg h);exact ⟨⟨x,s,l3,O n3,z3⟩,r,by rw [č];rfl,⟨fun hl=>p3 0 (List.length_pos_iff.2 hl),s3,ļ,t3⟩,h2⟩
open Go.Am
set_option maxHeartbeats 8000000
theorem LS (r:Cell×ae):ar cfg 111 [Δ [T Q r.1.1,T Q r.1.2,Z r.2]] []=O (Δ [T Q r.1.1,T Q r.1.2,Z r.2], []):=by refine aa ab5 WG ?_;simp (maxSteps:=9^9) (disch:=omega) [-G,-H,-C,-I,-J,om,Tx,ab]
theorem LU (r:Nd):ar cfg 100 [Δ [T Q r.depth,Z r.tag,Z r.text]] []=O (Δ [T Q r.depth,Z r.tag,Z r.text], []):=by refine aa ab2 WH ?_;simp (maxSteps:=9^9) (disch:=omega) [-G,-H,-C,-I,-J,om,Ty,ab]
theorem LV (nl:υ Ρ) (z:σ) (l:X (Cell×ae)) (hz:l≠ []->z=3) (hl:Ê l<1000000):ar cfg 110 [κ nl z (aN l),.fn 111 [] []] []=O (κ K 3 (aN l), []):=by
 refine aa ab4 WI ?_;have hE:=L6 l;have Ā:=fm l;have Ě:=aS l;generalize aN l=E at*
 have w:=LS;simp (maxSteps:=9^9) (disch:=omega) [-G,-H,-C,-I,-J,om,Tz,Ā];refine Wp.az (fun (i:σ)=>Ê l-i) (fun i=> [K,O (.fn 111 [] []),K,O (ό 0 i),K,O (κ nl z E),O (T Q (Ê l)),O (T Q i),K,K,K,K,K]) (fun i=> [Ξ ⟨ι,O 99,K⟩ 3 (E.take i)]) (fun i=>i<=Ê l) ?_ 0 (by omega) (by simp) (by simp);rintro i Ă;have Ň:(E.take i).length=i:=by rw [μ];omega
 by_cases h1:i<Ê l
 ·have hg:=hE i h1;obtain rfl:=hz (ne_of_lt h1)
  have ht:E.take (i+1)=E.take i++ [Δ [T Q l[i].1.1,T Q l[i].1.2,Z l[i].2]]:=by rw [ϒ,hg];rfl
  have w1:=w l[i];clear hE w;generalize l[i]=r at*
  generalize E.take i=EI at*
  simp (maxSteps:=9^9) (disch:=omega) [-G,-H,-C,-I,-J,om,h1,hg,Ā,Ň,ab,w1];exact ⟨i+1,by omega,by omega,by simp,by rw [ht]⟩
 ·obtain rfl:i=Ê l:=by omega
  rw [show E.take (Ê l)=E by rw [<-Ā,γ]] at Ň⊢;simp (maxSteps:=9^9) (disch:=omega) [-G,-H,-C,-I,-J,om,h1,Ā,Ě]
theorem LW (nl:υ Ρ) (z:σ) (l:X Nd) (hz:l≠ []->z=3) (hl:Ê l<1000000):ar cfg 99 [κ nl z (l.map dF),.fn 100 [] []] []=O (κ K 3 (l.map dF), []):=by
 refine aa afc acb ?_;have hE:=YL l;have Ā:=bW dF l;have Ě:=aM l;generalize l.map dF=E at*
 have w:=LU;simp (maxSteps:=9^9) (disch:=omega) [-G,-H,-C,-I,-J,om,acd,Ā];refine Wp.az (fun (i:σ)=>Ê l-i) (fun i=> [K,O (.fn 100 [] []),K,O (ό 0 i),K,O (κ nl z E),O (T Q (Ê l)),O (T Q i),K,K,K,K,K]) (fun i=> [Ξ ⟨ι,O 129,K⟩ 3 (E.take i)]) (fun i=>i<=Ê l) ?_ 0 (by omega) (by simp) (by simp);rintro i Ă;have Ň:(E.take i).length=i:=by rw [μ];omega
 by_cases h1:i<Ê l
 ·have hg:=hE i h1;obtain rfl:=hz (ne_of_lt h1)
  have ht:E.take (i+1)=E.take i++ [Δ [T Q l[i].depth,Z l[i].tag,Z l[i].text]]:=by rw [ϒ,hg];rfl
  have w1:=w l[i];clear hE w;generalize l[i]=r at*
  generalize E.take i=EI at*
  simp (maxSteps:=9^9) (disch:=omega) [-G,-H,-C,-I,-J,om,h1,hg,Ā,Ň,ab,w1];exact ⟨i+1,by omega,by omega,by simp,by rw [ht]⟩
 ·obtain rfl:i=Ê l:=by omega
  rw [show E.take (Ê l)=E by rw [<-Ā,γ]] at Ň⊢;simp (maxSteps:=9^9) (disch:=omega) [-G,-H,-C,-I,-J,om,h1,Ā,Ě]
def RV (nl:υ Ρ) (z:σ) (s:mv):AV:= Δ [T Q s.unit,Z s.num,κ nl z (s.nodes.map dF)]
theorem wI (nl:υ Ρ) (z:σ) (s:mv) (hz:s.nodes≠ []->z=3) (hl:s.nodes.length<1000000):ar cfg 53 [RV nl z s] []=O (cH s, []):=by
 refine aa ae6 ace ?_;have w:=LW nl z s.nodes hz hl;have Ě:=aM s.nodes;unfold RV cH;generalize s.nodes.map dF=E at*
 simp (maxSteps:=9^9) (disch:=omega) [-G,-H,-C,-I,-J,om,acf,w,ab,Ě]
def Me.cp (m:Me):Me:=⟨m.c,K,3,K,3⟩
theorem RW (m:Me) (hm:m.ok):ar cfg 65 [cV m] []=O (cV m.cp, []):=by
 refine aa ae9 acg ?_;have w1:=LV m.rn m.rz m.c.1 hm.rz hm.rl;have w2:=wI m.nn m.nz m.c.2 hm.nz hm.nl;have Ċ:=aS m.c.1;have Đ:=aM m.c.2.nodes;unfold RV cH at w2;unfold cV Me.cp;simp only;generalize m.c.2.nodes.map dF=E at*
 generalize aN m.c.1=R at*
 simp (maxSteps:=9^9) (disch:=omega) [-G,-H,-C,-I,-J,om,ach,w1,w2,ab,Ċ,Đ]
theorem WJ (nl Ħ:υ Ρ) (z z':σ) (l m:X Nd) (hz:l≠ []->z=3) (ň:m≠ []->z'=3) (hl:Ê l<1000000) (hm:Ê m<1000000):ar cfg 136 [κ nl z (l.map dF),κ Ħ z' (m.map dF)] []=O (φ (decide (l=m)), []):=by
 refine aa ab6 WK ?_;have hE:=YL l;have ğ:=YL m;have Ā:=bW dF l;have ě:=bW dF m;generalize l.map dF=E at*
 generalize m.map dF=E' at*
 by_cases hlm:Ê l=Ê m
 case neg=>
  have h2:((Ê l:Int) !=(Ê m:Int))=true:=by rw [ϝ];omega
  have h3: ¬ l=m:=fun h=>hlm (by rw [h]);simp (maxSteps:=9^9) (disch:=omega) [-G,-H,-C,-I,-J,om,Ph,Ā,ě,h2,h3]
 have h2:((Ê l:Int) !=(Ê m:Int))=false:=by rw [Μ];omega
 simp (maxSteps:=9^9) (disch:=omega) [-G,-H,-C,-I,-J,om,Ph,Ā,ě,h2];refine Wp.az (fun (i:σ)=>Ê l-i) (fun i=> [O (κ nl z E),O (κ Ħ z' E'),K,K,K,O (T Q (Ê l)),O (T Q i),K,K]) (fun _=> []) (fun i=>(l=m↔l.drop i=m.drop i)/\i<=Ê l) ?_ 0 ⟨by simp,by omega⟩ (by simp) rfl;rintro i ⟨hi,Ă⟩;by_cases h1:i<Ê l
 ·have Ą:i<Ê m:=by omega
  have hg:=hE i h1;have Ĝ:=ğ i Ą;obtain rfl:=hz (ne_of_lt h1);obtain rfl:=ň (ne_of_lt Ą);rw [W h1,W Ą,ϊ] at hi;clear hE ğ;generalize l[i]=r at*
  generalize m[i]=r' at*
  obtain ⟨r1,r2,t⟩:=r;obtain ⟨r1',r2',t'⟩:=r';simp only at hg Ĝ;simp (maxSteps:=9^9) (disch:=omega) [-G,-H,-C,-I,-J,om,h1,Ą,hg,Ĝ,Ā,ě];split
  ·rename_i q;intro e;obtain ⟨e1,_⟩:=hi.1 e;simp only [Nd.mk.injEq] at e1;obtain ⟨e2,e3,e4⟩:=e1;simp [e2,e3,e4] at q
  ·rename_i q;obtain ⟨rfl,rfl,rfl⟩:r1=r1'/\r2=r2'/\t=t':=by simpa using q
   exact ⟨i+1,⟨by rw [hi];simp,by omega⟩,by omega,by simp⟩
 ·rw [δ (by omega),δ (by omega)] at hi;have Ũ:l=m:=hi.2 rfl;simp (maxSteps:=9^9) (disch:=omega) [-G,-H,-C,-I,-J,om,h1,Ā,ě,Ũ]
theorem Pj (nl Ħ:υ Ρ) (z z':σ) (s t:mv) (hz:s.nodes≠ []->z=3) (ň:t.nodes≠ []->z'=3) (hl:s.nodes.length<1000000) (hm:t.nodes.length<1000000):ar cfg 77 [RV nl z s,RV Ħ z' t] []=O (φ (decide (s=t)), []):=by
 refine aa afa aci ?_;have w:=WJ nl Ħ z z' s.nodes t.nodes hz ň hl hm
 have hd:decide (s=t)=(decide (s.unit=t.unit)&&(decide (s.num=t.num)&&decide (s.nodes=t.nodes))):=by rw [ϋ];simp only [ξ,ϖ];cases s;cases t;simp
 rw [hd];have Ċ:=aM s.nodes;have Đ:=aM t.nodes;unfold RV;generalize decide (s.nodes=t.nodes)=q at*
 generalize s.nodes.map dF=E at*
 generalize t.nodes.map dF=E' at*
 by_cases h1:s.unit=t.unit
 ·by_cases h2:s.num=t.num
  ·simp (maxSteps:=9^9) (disch:=omega) [-G,-H,-C,-I,-J,om,RX,w,h1,h2,Ċ,Đ]
  ·have b2:(s.num==t.num)=false:=by simpa using h2
   simp (maxSteps:=9^9) (disch:=omega) [-G,-H,-C,-I,-J,om,RX,w,h1,h2,b2,Ċ,Đ]
 ·have b1:(s.unit==t.unit)=false:=by simpa using h1
  simp (maxSteps:=9^9) (disch:=omega) [-G,-H,-C,-I,-J,om,RX,w,h1,b1,Ċ,Đ]
set_option maxHeartbeats 4000000
def bA (_:Unit):AV:= φ ν
theorem acj {bs:X af} {k clock:σ} {m:X (Int×Unit×σ)} (h:af.at bs k= .mp (m.map (eE bA)) clock) (u:Int):cv cfg (cfg.ti 86) (.cg k) (T Q u) ι bs=O (φ (cL (bJ m) u).isSome,.none):=by
 have hf:=jP bA u m 0;have hl:=kq u m 0;rw [<-hl];cases hq:fP u m 0 with
 | none=>rw [hq] at hf;simp [cv,dJ,jy,kr,bU,h,hf,-bu]
 | some p=>rw [hq] at hf;simp [cv,dJ,jy,kr,bU,h,hf,-bu,eE,bA]
theorem aff {bs:X af} {k clock:σ} {m:X (Int×Unit×σ)} (h:af.at bs k= .mp (m.map (eE bA)) clock) (u:Int):aH cfg (cfg.ti 86) (.cg k) (T Q u) (φ ν) bs=O (Ϟ [],.upd k (.mp ((lT m clock u ()).map (eE bA)) (gV m clock u))):=by
 have hf:=jP bA u m 0;unfold lT gV;cases hq:fP u m 0 with
 | none=>rw [hq] at hf;simp [aH,bU,fY,fk,gE,h,hf,-bu,eE,bA]
 | some p=>obtain ⟨j,e⟩:=p;obtain ⟨_,_,he⟩:=iH u m 0 j e hq;rw [hq] at hf;simp [aH,bU,fY,fk,gE,h,hf,-bu,eE,bA,sameKey,gR,he,lq,-H]
def me0:AV:= Δ [κ (O ν) 0 [],T Q 0,Z [],κ (O ν) 0 []]
def lkM (m:X (Int×Me)) (u:Int):AV:=match cL m u with
 | some v=> Ϟ [cV v,φ ν]
 | none=> Ϟ [me0,φ ι]
theorem gj (m:Me):(cV m).plain=true:=by simp [cV,AV.plain,ak,aS,aM]
theorem acm {bs:X af} {k clock:σ} {m:X (Int×Me×σ)} (h:af.at bs k= .mp (m.map (eE cV)) clock) (u:Int):cv cfg (cfg.ti 110) (.cg k) (T Q u) ν bs=O (lkM (bJ m) u,.none):=by
 have hf:=jP cV u m 0;have hl:=kq u m 0;unfold lkM;rw [<-hl];cases hq:fP u m 0 with
 | none=>rw [hq] at hf;simp [cv,dJ,jy,kr,bU,h,hf,-bu,me0]
 | some p=>rw [hq] at hf;simp [cv,dJ,jy,kr,bU,h,hf,-bu,eE]
theorem afh {bs:X af} {k clock:σ} {m:X (Int×Me×σ)} (h:af.at bs k= .mp (m.map (eE cV)) clock) (u:Int) (v:Me):aH cfg (cfg.ti 110) (.cg k) (T Q u) (cV v) bs=O (Ϟ [],.upd k (.mp ((lT m clock u v).map (eE cV)) (gV m clock u))):=by
 have hf:=jP cV u m 0;have hp:=gj v;unfold cV at hp;unfold lT gV;cases hq:fP u m 0 with
 | none=>rw [hq] at hf;simp [aH,bU,fY,fk,gE,h,hf,-bu,eE,cV,hp]
 | some p=>obtain ⟨j,e⟩:=p;obtain ⟨_,_,he⟩:=iH u m 0 j e hq;rw [hq] at hf;simp [aH,bU,fY,fk,gE,h,hf,-bu,eE,cV,hp,sameKey,gR,he,lq,-H]
def GH (l:X Me):X (Int×Me):=l.foldl (fun a m=>jx a m.c.2.unit m) []
def rj (l:X Me) (u:Int):υ Me:=l.find? fun m=>decide (m.c.2.unit=u)
theorem BV (l:X Me) (m:Me):GH (l++ [m])=jx (GH l) m.c.2.unit m:=by simp [GH]
theorem BW {α:Type} (p:α->Ρ): ∀(l:X α) (x:α),(l++ [x]).find? p=(l.find? p).or (if p x=ν then O x else K)
 | [],x=>by
  show ([x]:X _).find? p=_;rw [Α];cases p x <;> rfl
 | y::l,x=>by
  rw [ϗ,Α,Α,BW p l x];cases p y <;> rfl
theorem BY: ∀(n:σ) (l:X Me),Ê l=n->(l.map fun m=>m.c.2.unit).Nodup-> ∀u,cL (GH l) u=rj l u
 | 0,l,hl,_,u=>by
  obtain rfl:=List.length_eq_zero_iff.1 hl;rfl
 | n+1,l,hl,hn,u=>by
  obtain ⟨r,x,rfl⟩: ∃r x,l=r++ [x]:=⟨l.dropLast,l.getLast (by intro h;rw [h] at hl;simp at hl),(List.dropLast_concat_getLast _).symm⟩;rw [ε,Τ] at hn;obtain ⟨h1,_,h3⟩:=hn;have ih:=BY n r (by simpa using hl) h1 u;unfold rj at ih⊢;rw [BV,ga,ih,BW];by_cases hx:x.c.2.unit=u
  ·rw [Κ hx,Κ (by simpa using hx)];cases hf:r.find? (fun m=>decide (m.c.2.unit=u)) with
   | none=>rfl
   | some y=>exfalso;have h5:=ω hf;have h6:=ϛ hf;simp only [ξ] at h6;exact h3 y.c.2.unit (List.mem_map.2 ⟨y,h5,rfl⟩) x.c.2.unit (by simp) (by rw [h6,hx])
  ·rw [ρ hx,ρ (by simpa using hx)];cases r.find? (fun m=>decide (m.c.2.unit=u)) <;> rfl
theorem RY (l:X Me) (u:Int):(rj l u).map Me.c=oH (l.map Me.c) u:=by
 unfold rj oH
 induction l with
 | nil=>rfl
 | cons x r ih=>rw [Θ,Α,Α];cases decide (x.c.2.unit=u) <;> simp [ih]
set_option maxHeartbeats 8000000
def uw (c:Mm):AV:= Δ [κ K 3 (aN c.1),T Q c.2.unit,Z c.2.num,κ K 3 (c.2.nodes.map dF)]
@[simp] theorem eZ: ∀(l:X Mm),ak (l.map uw)=ν
 | []=>rfl
 | x::r=>by simp [ak,uw,AV.plain,eZ r,aS,aM]
def Iw:AV:= Δ [T Q 0,Z [],κ (O ν) 0 []]
def GP (unit:Int) (lang:ae) (l:X Mm):AV:= Δ [T Q unit,Z lang,κ K 4 (l.map uw)]
def fa (l:X Int):X AV:=l.map (T Q)
theorem IM (l:X (Int)):(fa l).length=Ê l:=by simp [fa]
theorem gE7 (l:X (Int)): ∀k (h:k<Ê l),(fa l)[k]?=O (T Q l[k]):=fun k h=>get_map _ _ h
@[simp] theorem gC: ∀l:X Int,ak (fa l)=ν
 | []=>rfl
 | x::r=>by simp [fa,ak,AV.plain];exact gC r
theorem GI (c:Ct) (hc:c.ok) (k:Kp) (hk:k.ok) (h:aW c k.unit k.lang≠0):ar cfg 35 [ja k,br c] []=O (Ϟ [Iw,κ (O ν) 0 [],T Q (aW c k.unit k.lang)], []):=by
 refine aa ab1 TA ?_;have w:=rG c hc k.unit k.lang;rw [ρ h] at w;have h2:(aW c k.unit k.lang !=0)=true:=by simpa using h
 have hp:=bE k.b8;unfold br dm ja wV Iw Kj at*
 generalize au c.ad=L1 at*
 generalize c.av.map dc=L2 at*
 generalize c.ai.map bw=L3 at*
 generalize k.b8.map cV=KM at*
 generalize aW c k.unit k.lang=e at*
 simp (maxSteps:=9^9) (disch:=omega) [-G,-H,-C,-I,-J,om,WL,w,h,h2,hp,ab]
theorem acn (n:σ) (e:Int×Me×σ):c8 n (eE cV e)=eE cV e:=by simp [c8,eE,cV,forget,AV.under,aA]
theorem vw (n:σ):c8 n∘eE cV=eE cV:=by funext e;exact acn n e
theorem vx (n:σ) (m:X (Int×Me×σ)):dA n (m.map (eE cV))=true:=by
 induction m with
 | nil=>rfl
 | cons e r ih=>simp [dA,eE,cV,AV.under,aA] at ih⊢;try exact ih
theorem IN (m:Me):cV m= Δ [κ m.rn m.rz (aN m.c.1),T Q m.c.2.unit,Z m.c.2.num,κ m.nn m.nz (m.c.2.nodes.map dF)]:=rfl
theorem Pk {l:X Me} (hn:(l.map fun m=>m.c.2.unit).Nodup) (u:Int):cL (GH l) u=rj l u:=BY (Ê l) l rfl hn u
theorem LY {l:X Me} {i:σ} (h:i<Ê l):GH (l.take (i+1))=jx (GH (l.take i)) l[i].c.2.unit l[i]:=by rw [U h,BV]
theorem GJ (c:Ct) (hc:c.ok) (k:Kp) (hk:k.ok) (hn:(mh k.cs).Nodup) (h:aW c k.unit k.lang=0):ar cfg 35 [ja k,br c] []=
  O (Ϟ [GP k.unit k.lang (bY P aB c k.unit k.lang k.cs),κ K 1 (fa (ju P aB c k.unit k.lang k.cs)),T Q 0], []):=by
 refine aa ab1 TA ?_;have w:=rG c hc k.unit k.lang;rw [Κ h,h] at w;obtain ⟨ku,kl,km,mn,mz⟩:=k;have ă:=hk.mz;have ċ:=hk.ml;have ā:=hk.me;unfold Kp.cs at*
 simp only at w h hn ă ċ ā⊢;obtain ⟨S,hS⟩: ∃S,S=fp P c ku kl:=⟨_,rfl⟩;have Ŋ: ∀s∈S,ar cfg 66 [br c,T Q ku,Z kl,T Q s.unit] []=O (Ϟ [κ K 3 (aN (bX P aB c ku kl s.unit).1),T Q 0], []):=fun s hs=>LG c hc ku s.unit kl (vc h (by rw [<-hS];exact hs));have hst: ∀m∈km,ar cfg 27 [br c,T Q ku,Z kl,κ m.rn m.rz (aN m.c.1)] []=O (φ (gz (eV P aB c kl ku) m.c.1), []):=fun m hm=>LD c hc ku kl m.rn m.rz m.c.1 (ā m hm).rz (ā m hm).rl;have hp:=bE km;have hE:=sG cV km;have Ā:=bW cV km;unfold br dm ja wV xE at*
 simp only;generalize au c.ad=L1 at*
 generalize c.av.map dc=L2 at*
 generalize c.ai.map bw=L3 at*
 generalize km.map cV=KM at*
 rw [<-hS] at w;have đ:ak (S.map cH)=true:=df (fun x=>by simp [cH,AV.plain,aM]) _;have ħ:=bW cH S;simp (maxSteps:=9^9) (disch:=omega) [-G,-H,-C,-I,-J,om,WL,w,hp,ab,Ā,gW,đ]
 refine Wp.az (fun (a:σ×X (Int×Me×σ)×σ)=>Ê km-a.1) (fun a=> [K,K,O (Ζ 0 0),O (Ζ 1 0),O (Ζ 2 0),K,K,O (Ζ 4 0),K,O (.cg 5),K,K,K,K,K,K,K,K,K,K,K,K,O (κ mn mz KM),O (T Q (Ê km)),O (T Q a.1),K,K,K,K,K,K,K,K,K,K,K,K,K,K,K,K,K,K,K,K,K,K,K,K])
  (fun a=> [ο 31 [T Q ku,Z kl,κ mn mz KM],ο 26 [κ c.ln c.lz L1,κ c.bn c.bz L2,κ c.sn c.sz L3],ο 31 [T Q 0,Z [],ό 3 0],Ξ ⟨ι,O 60,K⟩ 4 [],ο 49 [T Q ku,Z kl,κ K 3 (S.map cH)],.mp (a.2.1.map (eE cV)) a.2.2])
  (fun a=>a.1<=Ê km/\bJ a.2.1=GH (km.take a.1)) ?_ (0, [],0) ⟨by omega,rfl⟩ (by simp) (by simp)
 rintro ⟨i,M,ck⟩ ⟨Ă,hM⟩;simp only at Ă hM⊢;by_cases h1:i<Ê km
 ·have hg:=hE i h1;obtain rfl:=ă (ne_of_lt h1);have hM2:=LY h1;rw [<-hM] at hM2;clear hE;generalize km[i]=v at*
  have up: ∀B0 B1 B2 B3 B4 l,aH cfg (cfg.ti 110) (.cg 5) (T Q v.c.2.unit) (Δ [κ v.rn v.rz (aN v.c.1),T Q v.c.2.unit,Z v.c.2.num,κ v.nn v.nz (v.c.2.nodes.map dF)]) (B0::B1::B2::B3::B4:: .mp (M.map (eE cV)) ck::l)=O (Ϟ [],.upd 5 (.mp ((lT M ck v.c.2.unit v).map (eE cV)) (gV M ck v.c.2.unit))):=fun B0 B1 B2 B3 B4 l=>afh rfl v.c.2.unit v;have Ď:=gj v;unfold cV at hg Ď;simp only [Pe] at up;simp (maxSteps:=9^9) (disch:=omega) [-G,-H,-C,-I,-J,om,h1,hg,Ā,ab,up,Ď,vw,vx];refine ⟨i+1,_,⟨by omega,(eP M ck v.c.2.unit v).trans hM2.symm⟩,by omega,by simp,rfl⟩
 ·obtain rfl:i=Ê km:=by omega
  rw [γ] at hM;clear hE
  have hn2:(km.map fun m=>m.c.2.unit).Nodup:=by unfold mh at hn;rw [ψ] at hn;exact hn
  have Ĩ: ∀u,cL (bJ M) u=rj km u:=fun u=>by rw [hM];exact Pk hn2 u
  obtain ⟨pk,Ŝ⟩: ∃pk,pk=q9 P aB c ku kl (km.map Me.c):=⟨_,rfl⟩;have ŋ:GP ku kl (bY P aB c ku kl (km.map Me.c))=GP ku kl (S.map fun s=>(pk s).1):=by rw [Ŝ,hS];rfl
  have ĩ:fa (ju P aB c ku kl (km.map Me.c))=fa ((S.filter fun s=>(pk s).2).map mv.unit):=by rw [Ŝ,hS];rfl
  have Ī: ∀s,pk s=match rj km s.unit with | some m=>if gz (eV P aB c kl ku) m.c.1=ν then (((bX P aB c ku kl s.unit).1,s),ν) else (m.c,ι) | none=>(((bX P aB c ku kl s.unit).1,s),ν):=fun s=>by
   rw [Ŝ];unfold q9 Bv;rw [<-RY];cases rj km s.unit <;> rfl
  have ī: ∀m∈km,ar cfg 65 [cV m] []=O (uw m.c, []):=fun m hm=>RW m (ā m hm);have Ō: ∀{u m},rj km u=O m->m∈km:=fun hf=>ω hf;have lk: ∀B0 B1 B2 B3 B4 l u,cv cfg (cfg.ti 110) (.cg 5) (T Q u) ν (B0::B1::B2::B3::B4:: .mp (M.map (eE cV)) ck::l)=O (lkM (bJ M) u,.none):=fun B0 B1 B2 B3 B4 l u=>acm rfl u;simp only [Pe] at lk;have hSg:=gE6 S;rw [ŋ,ĩ]
  have hSm:Ê S<1000000:=by rw [hS];unfold fp;rw [η];have h5:=(gB P ku c.ai ⟨[], []⟩).1;have h6:=hc.sl;omega
  clear ŋ ĩ Ŝ hn hn2 hM ā;obtain ⟨DD,hDD⟩: ∃DD:σ->X AV,DD=fun i=>((S.take i).map fun s=>(pk s).1).map uw:=⟨_,rfl⟩;obtain ⟨NL,Ė⟩: ∃NL:σ->σ,NL=fun i=>((S.take i).filter fun s=>(pk s).2).length:=⟨_,rfl⟩;obtain ⟨NN,Ľ⟩: ∃NN:σ->X AV,NN=fun i=>fa (((S.take i).filter fun s=>(pk s).2).map mv.unit):=⟨_,rfl⟩;have Ĭ:DD 0= []:=by rw [hDD];rfl
  have ľ:NN 0= []:=by rw [Ľ];rfl
  have Ł:NL 0=0:=by rw [Ė];rfl
  have ĭ:DD (Ê S)=(S.map fun s=>(pk s).1).map uw:=by rw [hDD];simp only [γ]
  have ō:NN (Ê S)=fa ((S.filter fun s=>(pk s).2).map mv.unit):=by rw [Ľ];simp only [γ]
  have Į: ∀i (h:i<Ê S),DD (i+1)=DD i++ [uw (pk S[i]).1]:=fun i h=>by
   rw [hDD];simp only;rw [U h,ε,ε];rfl
  have Ŏ: ∀i (h:i<Ê S),NN (i+1)=NN i++(if (pk S[i]).2=ν then [T Q S[i].unit] else [])/\NL (i+1)=NL i+(if (pk S[i]).2=ν then 1 else 0):=fun i h=>by
   rw [Ľ,Ė];simp only;rw [U h,ϐ];cases hq:(pk S[i]).2 <;> simp [hq,fa]
  have į: ∀i,i<=Ê S->(DD i).length=i:=fun i hi=>by rw [hDD];simp;omega
  have Ķ: ∀i,(NN i).length=NL i:=fun i=>by rw [Ľ,Ė];simp [fa]
  have ŏ: ∀i,i<=Ê S->NL i<=i:=fun i hi=>by
   rw [Ė];have:=ύ (fun s=>(pk s).2) (S.take i);rw [μ] at this;simp only;omega
  have İ: ∀i,ak (DD i)=true:=fun i=>by rw [hDD];exact eZ _
  have hNp: ∀i,ak (NN i)=true:=fun i=>by rw [Ľ];exact gC _
  unfold GP;rw [<-ĭ,<-ō];clear hDD Ė Ľ ĭ ō;simp (maxSteps:=9^9) (disch:=omega) [-G,-H,-C,-I,-J,om,Ā,ab,vw,vx,đ,ħ]
  refine Wp.az (fun (a:σ×υ AV)=>Ê S-a.1) (fun a=> [K,K,O (Ζ 0 0),O (Ζ 1 0),O (Ζ 2 0),K,K,K,K,O (.cg 5),K,O (Ζ 6 0),O (ό 8 (NL a.1)),K,K,K,K,K,K,K,K,K,K,K,K,K,K,K,O (κ K 3 (S.map cH)),O (T Q (Ê S)),O (T Q a.1),K,K,K,a.2,K,K,K,K,K,K,K,K,K,K,K,K,K,K])
   (fun a=> [ο 31 [T Q ku,Z kl,κ mn mz KM],ο 26 [κ c.ln c.lz L1,κ c.bn c.bz L2,κ c.sn c.sz L3],ο 31 [T Q 0,Z [],ό 3 0],Ξ ⟨ι,O 60,K⟩ 4 [],ο 49 [T Q ku,Z kl,κ K 3 (S.map cH)],.mp (M.map (eE cV)) ck,
    ο 31 [T Q ku,Z kl,ό 7 a.1],Ξ ⟨ι,O 60,K⟩ 4 (DD a.1),Ξ ⟨ι,O 3,K⟩ 1 (NN a.1)])
   (fun a=>a.1<=Ê S) ?_ (0,K) (by simp) (by simp [Ł]) (by simp [Ĭ,ľ])
  clear Ĭ ľ Ł;rintro ⟨i,o⟩ Ă;simp only at Ă⊢;have Ġ:=į i Ă;have ġ:=Ķ i;have hNii:=ŏ i Ă;have ũ:=İ i;have Ū:=hNp i;by_cases h1:i<Ê S
  ·have hg:=hSg i h1;have hsm:=θ h1;have e1:=Į i h1;obtain ⟨e2,e3⟩:=Ŏ i h1;have hr:=Ŋ S[i] hsm;have hp:=Ī S[i];rw [hp] at e1 e2 e3;clear Ŋ Ī hSg hp Į Ŏ į Ķ ŏ İ hNp;generalize S[i]=s at*
   cases hf:rj km s.unit with
   | none=>rw [hf] at e1 e2 e3;simp only [ϕ] at e1 e2 e3;have ĝ: ∀B0 B1 B2 B3 B4 l,_=_:=fun B0 B1 B2 B3 B4 l=>lk B0 B1 B2 B3 B4 l s.unit;unfold lkM at ĝ;rw [Ĩ,hf] at ĝ;unfold me0 at ĝ;clear hst ī Ō;simp (maxSteps:=9^9) (disch:=omega) [-G,-H,-C,-I,-J,om,h1,hg,ab,ĝ,hr,Ġ,ġ,vw,vx,đ,ħ];exact ⟨i+1,by omega,by omega,⟨e3.symm,by simp⟩,rfl,e1.symm,e2.symm⟩
   | some m=>
    have hmm:=Ō hf;have ļ:=hst m hmm;have ū:=ī m hmm;rw [hf] at e1 e2 e3;have ĝ: ∀B0 B1 B2 B3 B4 l,_=_:=fun B0 B1 B2 B3 B4 l=>lk B0 B1 B2 B3 B4 l s.unit;unfold lkM at ĝ;rw [Ĩ,hf] at ĝ;have Ď:=gj m;simp only [IN] at ĝ ū Ď;unfold uw at ū;clear hst ī Ō hf;cases hq:gz (eV P aB c kl ku) m.c.1 with
    | true=>rw [hq] at ļ;simp only [hq,ϕ] at e1 e2 e3;simp (maxSteps:=9^9) (disch:=omega) [-G,-H,-C,-I,-J,om,h1,hg,ab,ĝ,hr,ļ,Ġ,ġ,vw,vx,đ,ħ,Ď];exact ⟨i+1,by omega,by omega,⟨e3.symm,by simp⟩,rfl,e1.symm,e2.symm⟩
    | false=>rw [hq] at ļ;simp only [hq,if_false,ϑ] at e1 e2 e3;simp (maxSteps:=9^9) (disch:=omega) [-G,-H,-C,-I,-J,om,h1,hg,ab,ĝ,ļ,ū,Ġ,ġ,vw,vx,đ,ħ,Ď];exact ⟨i+1,by omega,by omega,⟨by rw [e3];rfl,by simp⟩,rfl,e1.symm,by rw [e2];exact (Λ _).symm⟩
  ·obtain rfl:i=Ê S:=by omega
   simp (maxSteps:=9^9) (disch:=omega) [-G,-H,-C,-I,-J,om,ħ,ab,Ġ,ġ,ũ,Ū,vw,vx,đ]
@[simp] theorem aco (a b:σ):(O a !=O b)=(a !=b):=rfl
@[simp] theorem RZ (f:FuncId) (a b d:σ) (ts:Array TypeId):nF (.call ⟨.value (.func f), #[.tmp a,.tmp b,.tmp d],ts⟩)= [a,b,d]:=rfl
theorem Pl (n:σ):c8 n∘eE bA=eE bA:=by funext e;simp [c8,eE,bA,forget,AV.under,aA]
theorem GK (n:σ) (m:X (Int×Unit×σ)):dA n (m.map (eE bA))=true:=by
 induction m with
 | nil=>rfl
 | cons e r ih=>simp [dA,eE,bA,AV.under,aA] at ih⊢;try exact ih
def BdR (r:Cell×ae):Prop:=(r.1.1=1->r.2.length<=10000)/\(r.1.1=2->r.2.length<900000/\ ∀p∈splitB 10 r.2.dropLast,Ê p<=10000)/\(r.1.1=3\/r.1.1=4->r.2.length<=1000)
def Bd (l:X (Cell×ae)):Prop:= ∀r∈l,BdR r
theorem jo {l:X (Cell×ae)} (x:Cell):(ax l x).getD []= []\/ ∃r∈l,r.1=x/\(ax l x).getD []=r.2:=by
 unfold ax;cases hf:l.find? (fun y=>decide (y.1=x)) with
 | none=>exact .inl rfl
 | some y=>exact .inr ⟨y,ω hf,by have:=ϛ hf;simpa using this,rfl⟩
theorem GL (unit:Int) (l:X (Cell×ae)) (hb:Bd l) (hl:Ê l<1000000) (nl:υ Ρ) (z:σ) (hr:l≠ []->nl=K/\z=3):ar cfg 76 [T Q unit,κ nl z (aN l)] []=O (eA (cu ag unit l), []):=by
 by_cases he:l= []
 ·subst he;exact Lw unit nl z
 ·obtain ⟨rfl,rfl⟩:=hr he;refine Od unit l he hl ?_ ?_ ?_ ?_
  ·rcases jo (l:=l) (1,unit) with h | ⟨r,hm,hx,h⟩
   ·rw [h];simp
   ·rw [h];exact (hb r hm).1 (by rw [hx])
  ·rcases jo (l:=l) (2,unit) with h | ⟨r,hm,hx,h⟩
   ·rw [h];simp
   ·rw [h];exact ((hb r hm).2.1 (by rw [hx])).1
  ·rcases jo (l:=l) (2,unit) with h | ⟨r,hm,hx,h⟩
   ·rw [h];intro p hp;simp [splitB] at hp;subst hp;simp
   ·rw [h];exact ((hb r hm).2.1 (by rw [hx])).2
  ·intro k u hk;rcases jo (l:=l) (k,u) with h | ⟨r,hm,hx,h⟩
   ·rw [h];simp
   ·rw [h];exact (hb r hm).2.2 (by rw [hx];exact hk)
theorem Bd.erase {l:X (Cell×ae)} (h:Bd l) (i:σ):Bd (l.eraseIdx i):=fun r hr=>h r (Φ hr)
theorem LZ {unit:Int} {l:X (Cell×ae)} (hb:Bd l) {s:mv} (h:(cu ag unit l).2=O s):s.nodes.length<1000000:=by
 refine Gf (N:=10000) (unit:=unit) (l:=l) ?_ h;rcases jo (l:=l) (2,unit) with h | ⟨r,hm,hx,h⟩
 ·rw [h];intro p hp;simp [splitB] at hp;subst hp;simp
 ·rw [h];exact ((hb r hm).2.1 (by rw [hx])).2
theorem zy {unit:Int} {l:X (Cell×ae)} (h:(cu ag unit l).1=0): ∃s,(cu ag unit l).2=O s:=by
 unfold cu at h⊢;by_cases ha:vb l=ν
 ·rw [Κ ha] at h⊢;unfold H7 at h⊢;by_cases h1:(ax l (1,unit)).getD []= []\/(ax l (2,unit)).getD []= []
  ·rw [Κ h1] at h;cases h
  ·rw [ρ h1] at h⊢;cases hx:fV ag ((ax l (2,unit)).getD []) with
   | none=>rw [hx] at h;cases h
   | some x=>
    rw [hx] at h;simp only at h⊢;cases hn:fW l (aY ((ax l (1,unit)).getD [])+1) x.facts with
    | none=>rw [hn] at h;cases h
    | some ns=>exact ⟨_,rfl⟩
 ·rw [ρ ha] at h;cases h
theorem R0 (l:X (Cell×ae)) (hne:l≠ []) (hl:Ê l<1000000):ar cfg 79 [κ K 3 (aN l)] []=O (ό 1 (Ê l), [ϣ,Ξ ⟨ι,O 99,K⟩ 3 (aN l)]):=by
 refine aa afb acp ?_;have Ā:=fm l;have hEn:aN l≠ []:=by simpa [aN] using hne
 have Ě:=aS l;generalize aN l=E at*
 obtain ⟨e,E',rfl⟩:=List.exists_cons_of_ne_nil hEn;simp only [π] at Ā;have hq:ky cfg (.slice 99) (κ K 3 (e::E')) (κ (O ν) 0 [])=O false:=rfl;simp (maxSteps:=9^9) (disch:=omega) [-G,-H,-C,-I,-J,om,-ky,hq,acq,Ā,Ě]
structure Me.Tl (m:Me):Prop where
 ok:m.ok
 rn:m.c.1≠ []->m.rn=K
 bd:Bd m.c.1
theorem ansProved (m:Me) (hm:m.Tl):ar cfg 43 [cV m] []=O (φ (ig ag m.c), []):=by
 refine aa ae4 acr ?_;obtain ⟨⟨l,s⟩,rn,rz,nn,nz⟩:=m;have ė:=hm.ok.rz;have ł:=hm.ok.nz;have Ģ:=hm.ok.rl;have Ń:=hm.ok.nl;have Ŭ:=hm.rn;have ŝ:=hm.bd;simp only at ė ł Ģ Ń Ŭ ŝ⊢;have w1:=GL s.unit l ŝ Ģ rn rz (fun h=>⟨Ŭ h,ė h⟩);have w2: ∀i,ar cfg 76 [T Q s.unit,κ K 3 (aN (l.eraseIdx i))] []=O (eA (cu ag s.unit (l.eraseIdx i)), []):=fun i=>GL s.unit _ (ŝ.erase i) (by have:=Χ l i;omega) K 3 (fun _=>⟨rfl,rfl⟩);have Ċ:=aS l;have Đ:=aM s.nodes;have Ā:=fm l;rw [uo] at w1;have Ş:ig ag (l,s)=(decide (cu ag s.unit l=(0,O s))&&pT ag (l,s)):=rfl;rw [Ş];unfold cV;simp only;by_cases h0:(cu ag s.unit l).1=0
 case neg=>
  have h1:decide (cu ag s.unit l=(0,O s))=false:=by simp only [ζ];intro h;exact h0 (by rw [h])
  rw [h1,ώ];have h2:((cu ag s.unit l).1 !=0)=true:=by simpa using h0
  obtain ⟨u,n,Ĕ,z2,ns,hv⟩:=oj (cu ag s.unit l).2;have p2:=aM ns;rw [hv] at w1;clear hv w2 h1 Ş;generalize (cu ag s.unit l).1=q at*
  generalize aN l=R at*
  generalize ns.map dF=NS at*
  generalize s.nodes.map dF=SN at*
  simp (maxSteps:=9^9) (disch:=omega) [-G,-H,-C,-I,-J,om,R1,w1,ab,h0,h2,Ċ,Đ,p2]
 obtain ⟨t,ht⟩:=zy h0;have htl:=LZ ŝ ht;have w3:=Pj K nn 3 nz t s (fun _=>rfl) ł htl Ń;rw [ht,h0] at w1
 have hd:decide (cu ag s.unit l=(0,O s))=decide (t=s):=by rw [show cu ag s.unit l=(0,O t) from Prod.ext h0 ht,ϋ];simp
 rw [hd];have pt:=aM t.nodes;unfold Rv cH at w1;simp only at w1;unfold RV at w3;by_cases hts:t=s
 case neg=>
  rw [Γ hts] at w3⊢;rw [ώ];clear w2 Ş hd;generalize aN l=R at*
  generalize t.nodes.map dF=TN at*
  generalize s.nodes.map dF=SN at*
  simp (maxSteps:=9^9) (disch:=omega) [-G,-H,-C,-I,-J,om,R1,w1,w3,ab,Ċ,Đ,pt]
 rw [χ hts] at w3⊢;rw [ϟ];clear hd Ş
 have Ğ: ∀i,∃o:AV,∃u n Ĕ z2 ns,o= Δ [T Q u,Z n,κ Ĕ z2 ns]/\ak ns=ν/\ar cfg 76 [T Q s.unit,κ K 3 (aN (l.eraseIdx i))] []=O (Ϟ [o,T Q (cu ag s.unit (l.eraseIdx i)).1], []):=fun i=>by
  have:=w2 i;rw [uo] at this;obtain ⟨u,n,Ĕ,z2,ns,hv⟩:=oj (cu ag s.unit (l.eraseIdx i)).2;exact ⟨_,u,n,Ĕ,z2,_,hv,aM ns,this⟩
 have Ő:pT ag (l,s)=(Η (Ê l)).all fun i=>decide ((cu ag s.unit (l.eraseIdx i)).1≠0):=rfl
 have ő: ∀i,aN (l.eraseIdx i)=(aN l).take i++(aN l).drop (i+1):=fun i=>by
  unfold aN;rw [<-qz,τ]
 simp only [ő] at Ğ;have ŭ:l≠ []->_:=fun h=>R0 l h Ģ;rw [Ő];clear Ő w2 ő;generalize Ć:(fun i=>(cu ag s.unit (l.eraseIdx i)).1)=code at*
 have ķ: ∀i,(cu ag s.unit (l.eraseIdx i)).1=code i:=fun i=>by rw [<-Ć]
 simp only [ķ] at Ğ⊢;clear Ć ķ;generalize hR:aN l=R at*
 generalize t.nodes.map dF=TN at*
 generalize s.nodes.map dF=SN at*
 simp (maxSteps:=9^9) (disch:=omega) [-G,-H,-C,-I,-J,om,R1,w1,w3,ab,Ċ,Đ,pt,Ā];clear w1 w3;refine Wp.az (fun (i:σ)=>Ê l-i) (fun i=> [K,O (Ζ 0 0),K,K,K,K,K,K,K,K,K,O (T Q (Ê l)),O (T Q i),K,K,K,K,K,K]) (fun _=> [ο 60 [κ rn rz R,T Q s.unit,Z s.num,κ nn nz SN],ο 58 [T Q t.unit,Z t.num,κ K 3 TN]]) (fun i=>i<=Ê l/\ ∀j,j<i->code j≠0) ?_ 0 ⟨by omega,fun j hj=>Ϛ hj (by omega)⟩ (by simp) (by simp);rintro i ⟨Ă,hi⟩;by_cases h1:i<Ê l
 ·obtain rfl:=Ŭ (ne_of_lt h1);obtain rfl:=ė (ne_of_lt h1);have wc:=ŭ (ne_of_lt h1);obtain ⟨o,u,n,Ĕ,z2,ns,rfl,po,wo⟩:=Ğ i;clear Ğ ŭ;have hti:(R.take i++R.drop (i+1)).length=Ê l-1:=by simp only [List.length_append,μ,Ϙ,Ā];omega
  by_cases hz:code i=0
  ·have Č:((Η (Ê l)).all fun i=> !decide (code i=0))=false:=by rw [ϓ];exact ⟨i,List.mem_range.2 h1,by simp [hz]⟩
   rw [hz] at wo;clear hi;simp (maxSteps:=9^9) (disch:=omega) [-G,-H,-C,-I,-J,om,h1,Ā,ab,wc,Dv,wo,po,hti,Č]
  ·have hz2:(code i==0)=false:=by simpa using hz
   simp (maxSteps:=9^9) (disch:=omega) [-G,-H,-C,-I,-J,om,h1,Ā,ab,wc,Dv,wo,po,hti,hz,hz2]
   exact ⟨i+1,⟨by omega,fun j hj=>by
    by_cases e:j=i
    ·rw [e];exact hz
    ·exact hi j (by omega)⟩,by omega,by simp⟩
 ·obtain rfl:i=Ê l:=by omega
  have Č:((Η (Ê l)).all fun i=> !decide (code i=0))=true:=by rw [Ψ];intro j hj;have:=hi j (List.mem_range.1 hj);simpa using this
  clear hi Ğ ŭ;simp (maxSteps:=9^9) (disch:=omega) [-G,-H,-C,-I,-J,om,Ā,ab,Č,Ċ,Đ,pt]
theorem BL {l:X Me} {i:σ} (h:i<Ê l) (hin:l[i].c.2.unit∈(l.take i).map fun m=>m.c.2.unit):db ag (l.map Me.c)=6:=by
 unfold db;rw [ρ];unfold mh;rw [ψ];intro hn
 have hs:((l.take (i+1)).map fun m=>m.c.2.unit).Nodup:=by refine List.Nodup.sublist ?_ hn;exact (List.take_sublist _ _).map _
 rw [U h,ε,Τ] at hs;exact hs.2.2 _ hin _ (by simp) rfl
theorem wF {l:X Me} (h:(l.map fun m=>m.c.2.unit).Nodup):db ag (l.map Me.c)=if (l.all fun m=>ig ag m.c)=ν then 0 else 14:=by
 unfold db;have h2:(mh (l.map Me.c)).Nodup:=by unfold mh;rw [ψ];exact h
 rw [Κ h2,List.all_map];rfl
theorem pY (k:Kp) (ă:k.b8≠ []->k.mz=4) (ċ:k.b8.length<1000000) (ā: ∀m∈k.b8,m.Tl):ar cfg 19 [ja k] []=O (T Q (db ag k.cs), []):=by
 refine aa aeX acs ?_;obtain ⟨ku,kl,km,mn,mz⟩:=k;unfold Kp.cs ja wV;simp only at ă ċ ā⊢;have hp:=bE km;have hE:=sG cV km;have Ā:=bW cV km;have w: ∀m∈km,ar cfg 43 [cV m] []=O (φ (ig ag m.c), []):=fun m hm=>ansProved m (ā m hm);have Ē:=fun i h=>BL (l:=km) (i:=i) h;have ģ:=wF (l:=km);obtain ⟨V,hV⟩: ∃V,V=db ag (km.map Me.c):=⟨_,rfl⟩;rw [<-hV] at ģ⊢;simp only [<-hV] at Ē;obtain ⟨US,Œ⟩: ∃US:σ->X Int,US=fun i=>(km.take i).map fun m=>m.c.2.unit:=⟨_,rfl⟩;have ş:US 0= []:=by rw [Œ];rfl
 have Ů:US (Ê km)=km.map fun m=>m.c.2.unit:=by rw [Œ];simp only [γ]
 have ů: ∀i (h:i<Ê km),US (i+1)=US i++ [km[i].c.2.unit]:=fun i h=>by
  rw [Œ];simp only;rw [U h,ε];rfl
 have Ē: ∀i (h:i<Ê km),km[i].c.2.unit∈US i->V=6:=fun i h hin=>Ē i h (by rw [Œ] at hin;exact hin);clear hV Œ ā;generalize km.map cV=KM at*
 simp (maxSteps:=9^9) (disch:=omega) [-G,-H,-C,-I,-J,om,acu,ab,Ā,hp,gW]
 refine Wp.az (fun (a:σ×X (Int×Unit×σ)×σ)=>Ê km-a.1) (fun a=> [K,O (Ζ 0 0),K,O (.cg 1),K,K,K,O (κ mn mz KM),O (T Q (Ê km)),O (T Q a.1),K,K,K,K,K,K,K,K,K,K])
  (fun a=> [ο 31 [T Q ku,Z kl,κ mn mz KM],.mp (a.2.1.map (eE bA)) a.2.2])
  (fun a=>a.1<=Ê km/\(US a.1).Nodup/\ ∀u,(cL (bJ a.2.1) u).isSome=decide (u∈US a.1)) ?_ (0, [],0) ⟨by omega,by rw [ş];exact Ο,fun u=>by rw [ş];rfl⟩ (by simp) (by simp)
 rintro ⟨i,M,ck⟩ ⟨Ă,œ,hM⟩;simp only at Ă œ hM⊢;by_cases h1:i<Ê km
 ·have hg:=hE i h1;obtain rfl:=ă (ne_of_lt h1);have hu:=ů i h1;have hd:=Ē i h1;clear hE ů Ē w ģ ş Ů;generalize km[i]=v at*
  have lk: ∀B0 l,cv cfg (cfg.ti 86) (.cg 1) (T Q v.c.2.unit) ι (B0:: .mp (M.map (eE bA)) ck::l)=O (φ (cL (bJ M) v.c.2.unit).isSome,.none):=fun B0 l=>acj rfl v.c.2.unit;have up: ∀B0 l,aH cfg (cfg.ti 86) (.cg 1) (T Q v.c.2.unit) (φ ν) (B0:: .mp (M.map (eE bA)) ck::l)=O (Ϟ [],.upd 1 (.mp ((lT M ck v.c.2.unit ()).map (eE bA)) (gV M ck v.c.2.unit))):=fun B0 l=>aff rfl v.c.2.unit;have Ď:=gj v;unfold cV at hg Ď;simp only [abM,hM] at lk up;by_cases hin:v.c.2.unit∈US i
  ·have hd:=hd hin;rw [χ hin] at lk;clear hM hu œ;simp (maxSteps:=9^9) (disch:=omega) [-G,-H,-C,-I,-J,om,h1,hg,Ā,ab,lk,Ď,hd]
  ·rw [Γ hin] at lk;clear hd;simp (maxSteps:=9^9) (disch:=omega) [-G,-H,-C,-I,-J,om,h1,hg,Ā,ab,lk,up,Ď,Pl,GK];refine ⟨i+1,lT M ck v.c.2.unit (),gV M ck v.c.2.unit,⟨by omega,?_,fun u=> ?_⟩,by omega,by simp,rfl,rfl⟩
   ·rw [hu,Τ]
    exact ⟨œ,by simp,fun a ha b hb=>by
     simp only [Ε] at hb;subst hb;exact fun e=>hin (e▸ha)⟩
   ·rw [eP,ga,hu];by_cases e:v.c.2.unit=u
    ·rw [Κ e,<-e];simp
    ·rw [ρ e,hM];rw [ϋ,ξ,ξ,Β,Ε];exact ⟨.inl,fun h=>h.elim id fun h=>Ϛ h.symm e⟩
 ·obtain rfl:i=Ê km:=by omega
  have hV:=ģ (by rw [<-Ů];exact œ);clear œ hM ů Ů ş Ē ģ;simp (maxSteps:=9^9) (disch:=omega) [-G,-H,-C,-I,-J,om,Ā,ab,hp,Pl,GK]
  refine Wp.az (fun (i:σ)=>Ê km-i) (fun i=> [K,K,K,K,K,K,K,K,K,K,K,K,K,O (κ mn mz KM),O (T Q (Ê km)),O (T Q i),K,K,K,K])
   (fun _=> [ο 31 [T Q ku,Z kl,κ mn mz KM],.mp (M.map (eE bA)) ck])
   (fun i=>V=(if ((km.drop i).all fun m=>ig ag m.c)=ν then 0 else 14)/\i<=Ê km) ?_ 0 ⟨by rw [List.drop_zero];exact hV,by omega⟩ (by simp) (by simp)
  clear hV;rintro i ⟨hV,Ă⟩;by_cases h1:i<Ê km
  ·have hg:=hE i h1;obtain rfl:=ă (ne_of_lt h1);have w1:=w _ (θ h1);rw [W h1,List.all_cons] at hV;clear hE w;generalize km[i]=v at*
   have Ď:=gj v;unfold cV at hg Ď w1;cases hq:ig ag v.c with
   | false=>rw [hq] at hV w1;simp only [ώ,ϑ,if_false] at hV;subst hV;simp (maxSteps:=9^9) (disch:=omega) [-G,-H,-C,-I,-J,om,h1,hg,Ā,ab,w1,Ď,Pl,GK]
   | true=>
    rw [hq] at hV w1;simp only [ϟ] at hV;generalize hd:((km.drop (i+1)).all fun m=>ig ag m.c)=dd at*
    simp (maxSteps:=9^9) (disch:=omega) [-G,-H,-C,-I,-J,om,h1,hg,Ā,ab,w1,Ď,Pl,GK];exact ⟨i+1,⟨by rw [<-hd] at hV;simpa using hV,by omega⟩,by omega,by simp⟩
  ·rw [δ (by omega),List.all_nil] at hV;simp only [ϕ] at hV;subst hV;simp (maxSteps:=9^9) (disch:=omega) [-G,-H,-C,-I,-J,om,h1,Ā,ab,hp,Pl,GK]
theorem OM (k:Kp):(ja k).plain=true:=by simp [ja,wV,AV.plain,ak]
theorem DF {l:X Mm} (h:db ag l=0):(mh l).Nodup:=by
 unfold db at h;by_cases h1:(mh l).Nodup
 ·exact h1
 ·rw [ρ h1] at h;cases h
theorem J0 (c:Ct) (hc:c.ok) (unit:Int) (lang:ae) (h:aW c unit lang=0):ar cfg 11 [br c,T Q unit,Z lang] []=
  O (Ϟ [GP unit lang (bY P aB c unit lang []),T Q 0], []):=by
 refine aa abZ TB ?_;have w:=GJ c hc ⟨unit,lang, [],O ν,0⟩ ⟨fun h=>Ϛ rfl h,by simp,fun m hm=>by cases hm⟩ Ο h;have pm:=eZ (bY P aB c unit lang []);unfold br dm ja wV GP Kp.cs at*
 simp only [Ν] at w;generalize bY P aB c unit lang []=M at*
 generalize M.map uw=MV at*
 generalize ju P aB c unit lang []=AN at*
 have pa:=gC AN;generalize fa AN=IA at*
 generalize au c.ad=L1 at*
 generalize c.av.map dc=L2 at*
 generalize c.ai.map bw=L3 at*
 simp (maxSteps:=9^9) (disch:=omega) [-G,-H,-C,-I,-J,om,WM,w,ab,pm,pa]
theorem Rw (c:Ct) (hc:c.ok) (unit:Int) (lang:ae) (h:aW c unit lang≠0):ar cfg 11 [br c,T Q unit,Z lang] []=O (Ϟ [Iw,T Q (aW c unit lang)], []):=by
 refine aa abZ TB ?_;have w:=GI c hc ⟨unit,lang, [],O ν,0⟩ ⟨fun h=>Ϛ rfl h,by simp,fun m hm=>by cases hm⟩ h;unfold br dm ja wV Iw at*
 simp only [Ν] at w;generalize aW c unit lang=e at*
 generalize au c.ad=L1 at*
 generalize c.av.map dc=L2 at*
 generalize c.ai.map bw=L3 at*
 simp (maxSteps:=9^9) (disch:=omega) [-G,-H,-C,-I,-J,om,WM,w,ab]
theorem Dy (c:Ct) (hc:c.ok) (k:Kp) (hk:k.ok) (hi: ∀m∈k.b8,m.Tl) (Š:db ag k.cs=0) (h:aW c k.unit k.lang=0):ar cfg 16 [ja k,br c] []=
  O (Ϟ [GP k.unit k.lang (bY P aB c k.unit k.lang k.cs),κ K 1 (fa (ju P aB c k.unit k.lang k.cs)),T Q 0], []):=by
 refine aa Wf OJ ?_;have w1:=pY k hk.mz hk.ml hi;have w2:=GJ c hc k hk (DF Š) h;rw [Š] at w1;have pk:=bE k.b8;have pm:=eZ (bY P aB c k.unit k.lang k.cs);unfold br dm ja wV GP at*
 generalize bY P aB c k.unit k.lang k.cs=M at*
 generalize M.map uw=MV at*
 generalize ju P aB c k.unit k.lang k.cs=AN at*
 have pa:=gC AN;generalize fa AN=IA at*
 generalize k.b8.map cV=KM at*
 generalize au c.ad=L1 at*
 generalize c.av.map dc=L2 at*
 generalize c.ai.map bw=L3 at*
 simp (maxSteps:=9^9) (disch:=omega) [-G,-H,-C,-I,-J,om,RB,w1,w2,ab,pm,pa,pk]
theorem RE (c:Ct) (hc:c.ok) (k:Kp) (hk:k.ok) (hi: ∀m∈k.b8,m.Tl) (Š:db ag k.cs=0) (h:aW c k.unit k.lang≠0):ar cfg 16 [ja k,br c] []=
  O (Ϟ [Iw,κ (O ν) 0 [],T Q (aW c k.unit k.lang)], []):=by
 refine aa Wf OJ ?_;have w1:=pY k hk.mz hk.ml hi;have w2:=GI c hc k hk h;rw [Š] at w1;have pk:=bE k.b8;unfold br dm ja wV Iw at*
 generalize aW c k.unit k.lang=e at*
 generalize k.b8.map cV=KM at*
 generalize au c.ad=L1 at*
 generalize c.av.map dc=L2 at*
 generalize c.ai.map bw=L3 at*
 simp (maxSteps:=9^9) (disch:=omega) [-G,-H,-C,-I,-J,om,RB,w1,w2,ab,pk]
def OI (m:Me):Me:=⟨m.c,if m.c.1= [] then O ι else K,if m.c.1= [] then 0 else 3,if m.c.2.nodes= [] then O ι else K,if m.c.2.nodes= [] then 0 else 3⟩
def Ac (k:Kp):Kp:=⟨k.unit,k.lang,k.b8.map OI,K,4⟩
theorem sE (k:Kp):(Ac k).cs=k.cs:=by unfold Kp.cs Ac;rw [ψ];rfl
theorem Pm {m:Me} (h:m.ok):(OI m).ok:=⟨fun h=>by simp only [OI] at h⊢;rw [ρ h],fun h=>by simp only [OI] at h⊢;rw [ρ h],h.rl,h.nl⟩
theorem RC {m:Me} (h:m.ok) (hb:Bd m.c.1):(OI m).Tl:=⟨Pm h,fun h=>by simp only [OI] at h⊢;rw [ρ h],hb⟩
theorem zz {k:Kp} (h:k.ok):(Ac k).ok:=⟨fun _=>rfl,by simp [Ac];exact h.ml,fun m hm=>by
 simp only [Ac,Ω] at hm;obtain ⟨x,hx,rfl⟩:=hm;exact Pm (h.me x hx)⟩
theorem Gn (k:Kp) (hk:k.ok):ar cfg 17 [ja k] []=O (ja (Ac k), []):=by
 refine aa aeW acv ?_;obtain ⟨ku,kl,km,mn,mz⟩:=k;have ă:=hk.mz;have ċ:=hk.ml;have ā:=hk.me;unfold Ac ja wV;simp only at ă ċ ā⊢;have hp:=bE km;have hE:=sG cV km;have Ā:=bW cV km;obtain ⟨DD,hDD⟩: ∃DD:σ->X AV,DD=fun i=>((km.take i).map OI).map cV:=⟨_,rfl⟩;have Ĭ:DD 0= []:=by rw [hDD];rfl
 have ĭ:(km.map OI).map cV=DD (Ê km):=by rw [hDD];simp only [γ]
 have Į: ∀i (h:i<Ê km),DD (i+1)=DD i++ [cV (OI km[i])]:=fun i h=>by
  rw [hDD];simp only;rw [U h,ε,ε];rfl
 have į: ∀i,i<=Ê km->(DD i).length=i:=fun i hi=>by rw [hDD];simp;omega
 have İ: ∀i,ak (DD i)=true:=fun i=>by rw [hDD];exact bE _
 rw [ĭ];clear hDD ĭ;generalize km.map cV=KM at*
 simp (maxSteps:=9^9) (disch:=omega) [-G,-H,-C,-I,-J,om,acw,ab,Ā,hp]
 refine Wp.az (fun (i:σ)=>Ê km-i) (fun i=> [K,O (Ζ 0 0),O (Ζ 1 0),O (Ζ 3 0),O (T Q i),K,K,K,K,K,K,K,K,K,K,K])
  (fun i=> [ο 31 [T Q ku,Z kl,κ mn mz KM],ο 31 [T Q 0,Z [],ό 2 0],Ξ ⟨ι,O 60,K⟩ 4 [],ο 31 [T Q ku,Z kl,ό 4 i],Ξ ⟨ι,O 60,K⟩ 4 (DD i)])
  (fun i=>i<=Ê km) ?_ 0 (by omega) (by simp) (by simp [Ĭ])
 clear Ĭ;rintro i Ă;have h2:=į i Ă;have h3:=İ i;by_cases h1:i<Ê km
 ·have hg:=hE i h1;obtain rfl:=ă (ne_of_lt h1);have hs:=Į i h1;have ĕ:=ā km[i] (θ h1);clear hE Į į İ ā;generalize km[i]=m at*
  have ė:=ĕ.rz;have ł:=ĕ.nz;have Ģ:=ĕ.rl;have Ń:=ĕ.nl;clear ĕ;obtain ⟨⟨rs,u,nm,ns⟩,rn,rz,nn,nz⟩:=m;simp only at ė ł Ģ Ń;unfold cV OI at hs;unfold cV at hg;simp only at hg hs;have ı:=fm rs;have Ķ:=bW dF ns;have pr:=aS rs;have pn:=aM ns;cases rs with
  | nil=>
   simp only [ϕ] at hs;rw [show aN []= [] from rfl] at hg hs;cases ns with
   | nil=>simp only [Ν,ϕ] at hg hs;simp (maxSteps:=9^9) (disch:=omega) [-G,-H,-C,-I,-J,om,h1,hg,Ā,ab,h2,h3];exact ⟨i+1,by omega,by omega,by simp,rfl,hs.symm⟩
   | cons y ns=>
    obtain rfl:=ł (by simp);rw [ρ (by simp),ρ (by simp)] at hs;simp only [π] at Ń Ķ;have hne:(y::ns).map dF≠ []:=by simp
    generalize (y::ns).map dF=NN at*
    simp (maxSteps:=9^9) (disch:=omega) [-G,-H,-C,-I,-J,om,h1,hg,Ā,ab,h2,h3,Ķ,pn,hne];exact ⟨i+1,by omega,by omega,by simp,rfl,hs.symm⟩
  | cons x rs=>
   obtain rfl:=ė (by simp);rw [ρ (by simp),ρ (by simp)] at hs;simp only [π] at Ģ ı;have Ŕ:aN (x::rs)≠ []:=by simp [aN]
   generalize aN (x::rs)=RR at*
   cases ns with
   | nil=>simp only [Ν,ϕ] at hg hs;simp (maxSteps:=9^9) (disch:=omega) [-G,-H,-C,-I,-J,om,h1,hg,Ā,ab,h2,h3,ı,pr,Ŕ];exact ⟨i+1,by omega,by omega,by simp,rfl,hs.symm⟩
   | cons y ns=>
    obtain rfl:=ł (by simp);rw [ρ (by simp),ρ (by simp)] at hs;simp only [π] at Ń Ķ;have hne:(y::ns).map dF≠ []:=by simp
    generalize (y::ns).map dF=NN at*
    simp (maxSteps:=9^9) (disch:=omega) [-G,-H,-C,-I,-J,om,h1,hg,Ā,ab,h2,h3,ı,pr,Ŕ,Ķ,pn,hne];exact ⟨i+1,by omega,by omega,by simp,rfl,hs.symm⟩
 ·obtain rfl:i=Ê km:=by omega
  simp (maxSteps:=9^9) (disch:=omega) [-G,-H,-C,-I,-J,om,Ā,ab,h2,h3,hp]
theorem zx (a b:Kp) (ha:a.ok) (hb:b.ok):ar cfg 14 [ja a,ja b] []=O (φ (decide (a.unit=b.unit/\a.lang=b.lang/\a.cs=b.cs)), []):=by
 refine aa aeV acx ?_;obtain ⟨ku,kl,km,mn,mz⟩:=a;obtain ⟨š,Ţ,ą,mn',mz'⟩:=b;have ă:=ha.mz;have ċ:=ha.ml;have ā:=ha.me;have ŕ:=hb.mz;have Ű:=hb.ml;have ē:=hb.me;unfold Kp.cs ja wV;simp only at ă ċ ā ŕ Ű ē⊢;have hE:=sG cV km;have Ā:=bW cV km;have ğ:=sG cV ą;have ć:=bW cV ą;have pk:=bE km;have Ŗ:=bE ą;have wr: ∀m∈km,∀n∈ą,ar cfg 38 [κ m.rn m.rz (aN m.c.1),κ n.rn n.rz (aN n.c.1)] []=O (φ (decide (m.c.1=n.c.1)), []):=fun m hm n hn=>On _ _ _ _ _ _ (ā m hm).rz (ē n hn).rz (ā m hm).rl (ē n hn).rl;have ws: ∀m∈km,∀n∈ą,ar cfg 39 [Δ [T Q m.c.2.unit,Z m.c.2.num,κ m.nn m.nz (m.c.2.nodes.map dF)],Δ [T Q n.c.2.unit,Z n.c.2.num,κ n.nn n.nz (n.c.2.nodes.map dF)]] []=O (φ (decide (m.c.2=n.c.2)), []):=fun m hm n hn=>zt _ _ _ _ _ _ (ā m hm).nz (ē n hn).nz (ā m hm).nl (ē n hn).nl;clear ā ē;generalize km.map cV=KM at*
 generalize ą.map cV=KM' at*
 by_cases hq:ku=š/\kl=Ţ/\Ê km=ą.length
 case neg=>
  have hd:decide (ku=š/\kl=Ţ/\km.map Me.c=ą.map Me.c)=false:=by rw [ζ];rintro ⟨h1,h2,h3⟩;exact hq ⟨h1,h2,by simpa using congrArg Ê h3⟩
  rw [hd];clear hd wr ws hE ğ;by_cases h1:ku=š
  ·by_cases h2:kl=Ţ
   ·have h3: ¬ Ê km=ą.length:=fun h3=>hq ⟨h1,h2,h3⟩;have h4:((Ê km:Int) !=(ą.length:Int))=true:=by rw [ϝ];omega
    simp (maxSteps:=9^9) (disch:=omega) [-G,-H,-C,-I,-J,om,Pn,ab,Ā,ć,pk,Ŗ,h1,h2,h3,h4]
   ·have h2':(kl !=Ţ)=true:=by simpa using h2
    simp (maxSteps:=9^9) (disch:=omega) [-G,-H,-C,-I,-J,om,Pn,ab,Ā,ć,pk,Ŗ,h1,h2,h2']
  ·have Ą:(ku !=š)=true:=by simpa using h1
   simp (maxSteps:=9^9) (disch:=omega) [-G,-H,-C,-I,-J,om,Pn,ab,Ā,ć,pk,Ŗ,h1,Ą]
 obtain ⟨rfl,rfl,Ę⟩:=hq;have h4:((Ê km:Int) !=(ą.length:Int))=false:=by rw [Μ];omega
 simp only [true_and];simp (maxSteps:=9^9) (disch:=omega) [-G,-H,-C,-I,-J,om,Pn,ab,Ā,ć,pk,Ŗ,h4]
 refine Wp.az (fun (x:σ×υ AV)=>Ê km-x.1) (fun x=> [K,K,O (Ζ 0 0),O (Ζ 1 0),K,O (T Q x.1),K,K,K,x.2,K]) (fun _=> [ο 31 [T Q ku,Z kl,κ mn mz KM],ο 31 [T Q ku,Z kl,κ mn' mz' KM']])
  (fun x=>(km.map Me.c=ą.map Me.c↔(km.drop x.1).map Me.c=(ą.drop x.1).map Me.c)/\x.1<=Ê km) ?_ (0,K) ⟨by simp,by simp⟩ (by simp) rfl
 rintro ⟨i,o⟩ ⟨hi,Ă⟩;simp only at hi Ă⊢;by_cases h1:i<Ê km
 ·have Ą:i<ą.length:=by omega
  have hg:=hE i h1;have Ĝ:=ğ i Ą;obtain rfl:=ă (ne_of_lt h1);obtain rfl:=ŕ (ne_of_lt Ą);rw [W h1,W Ą,Θ,Θ,ϊ] at hi;have w1:=wr _ (θ h1) _ (θ Ą);have w2:=ws _ (θ h1) _ (θ Ą);clear hE ğ wr ws;generalize km[i]=m at*
  generalize ą[i]=n at*
  unfold cV at hg Ĝ;have p1:=aS m.c.1;have p2:=aS n.c.1;have p3:=aM m.c.2.nodes;have p4:=aM n.c.2.nodes;have hc:m.c=n.c↔m.c.1=n.c.1/\m.c.2=n.c.2:=Prod.ext_iff;by_cases q1:m.c.1=n.c.1
  ·by_cases q2:m.c.2=n.c.2
   ·rw [χ q1] at w1;rw [χ q2] at w2;rw [hc] at hi;simp only [q1,q2,and_self,true_and] at hi;clear hc q1 q2;simp (maxSteps:=9^9) (disch:=omega) [-G,-H,-C,-I,-J,om,h1,Ą,hg,Ĝ,Ā,ć,ab,w1,w2,p1,p2,p3,p4];exact ⟨i+1,⟨by simpa using hi,by omega⟩,by omega,by simp⟩
   ·have hd:decide (km.map Me.c=ą.map Me.c)=false:=by rw [ζ];intro h;exact q2 (hc.1 (hi.1 h).1).2
    rw [hd];rw [χ q1] at w1;rw [Γ q2] at w2;clear hc q1 q2 hi hd;simp (maxSteps:=9^9) (disch:=omega) [-G,-H,-C,-I,-J,om,h1,Ą,hg,Ĝ,Ā,ć,ab,w1,w2,p1,p2,p3,p4]
  ·have hd:decide (km.map Me.c=ą.map Me.c)=false:=by rw [ζ];intro h;exact q1 (hc.1 (hi.1 h).1).1
   rw [hd];rw [Γ q1] at w1;clear hc q1 hi hd w2;simp (maxSteps:=9^9) (disch:=omega) [-G,-H,-C,-I,-J,om,h1,Ą,hg,Ĝ,Ā,ć,ab,w1,p1,p2,p3,p4]
 ·rw [δ (by omega),δ (by omega)] at hi
  have hd:decide (km.map Me.c=ą.map Me.c)=true:=by rw [ξ];exact hi.2 rfl
  rw [hd];clear hi hd;simp (maxSteps:=9^9) (disch:=omega) [-G,-H,-C,-I,-J,om,h1,Ā,ć,ab,pk,Ŗ]
def meK (m:Mm):Me:=⟨m,K,3,K,3⟩
def Ab (unit:Int) (lang:ae) (M:X Mm):Kp:=⟨unit,lang,M.map meK,K,4⟩
theorem Ix (u:Int) (l:ae) (M:X Mm):GP u l M=ja (Ab u l M):=by unfold GP ja wV Ab;rw [ψ];rfl
theorem vo (u:Int) (l:ae) (M:X Mm):(Ab u l M).cs=M:=by unfold Kp.cs Ab;rw [ψ];exact List.map_id M
structure MB (m:Mm):Prop where
 rl:m.1.length<1000000
 nl:m.2.nodes.length<1000000
 bd:Bd m.1
theorem vn {u:Int} {l:ae} {M:X Mm} (hl:Ê M<1000000) (hm: ∀m∈M,MB m):(Ab u l M).ok:=⟨fun _=>rfl,by simpa [Ab] using hl,fun m h=>by
 simp only [Ab,Ω] at h;obtain ⟨x,hx,rfl⟩:=h;exact ⟨fun _=>rfl,fun _=>rfl,(hm x hx).rl,(hm x hx).nl⟩⟩
theorem Po {c:Ct} (hf:qM c=ν) {root u:Int} {lang:ae} (h:(bX P aB (nq c) root lang u).2=0):Bd (bX P aB (nq c) root lang u).1:=by
 obtain ⟨S,_,_,_,hS,_⟩:=FV h;rw [hS];intro r hr;obtain ⟨z,_,rfl⟩:=List.mem_map.1 hr;have v:=Iv hf root lang;rw [(jV c).eV];obtain ⟨z1,z2⟩:=z;refine ⟨fun h1=> ?_,fun h1=> ?_,fun h1=> ?_⟩
 ·simp only at h1;subst h1;exact v.one z2
 ·simp only at h1;subst h1;exact ⟨v.two z2,fun p hp=>by have:=v.ad6 z2 p hp;omega⟩
 ·exact v.more z1 z2 h1
theorem J2 (c:Ct) (root:Int) (lang:ae):(fp P c root lang).length<=c.ai.length:=by unfold fp;rw [η];exact (gB P root c.ai ⟨[], []⟩).1
theorem Gj {c:Ct} (hc:c.ok) (hf:qM c=ν) {root:Int} {lang:ae} (h:aW (nq c) root lang=0) {old:X Mm} (ho: ∀m∈old,MB m):
  (∀m∈bY P aB (nq c) root lang old,MB m)/\(bY P aB (nq c) root lang old).length<1000000:=by
 constructor
 ·intro m hm;obtain ⟨s,hs,rfl⟩:=List.mem_map.1 hm
  have Ĉ:MB ((bX P aB (nq c) root lang s.unit).1,s):=⟨BJ _ root s.unit lang,by
   obtain ⟨x,hx,rfl⟩:=List.mem_map.1 hs;exact Gg (cj (c5 (eh h)).1) _ ((gB P root (nq c).ai ⟨[], []⟩).2 _ hx),Po hf (vc h hs)⟩
  unfold q9 Bv;cases Ō:oH old s.unit with
  | none=>exact Ĉ
  | some m=>
   simp only;split
   ·exact Ĉ
   ·exact ho m (zh Ō).1
 ·unfold bY;rw [η];have:=J2 (nq c) root lang;have:=(vj hc).sl;omega
theorem Wd (c:Ct): ∃a b d,br c= Δ [κ c.ln c.lz a,κ c.bn c.bz b,κ c.sn c.sz d]:=⟨_,_,_,rfl⟩
theorem WN (k:Kp) (hk:k.ok):ar cfg 24 [ja k] []=O (xE k.unit k.lang (k.cs.map ϔ), []):=by
 refine aa aeZ acy ?_;obtain ⟨ku,kl,km,mn,mz⟩:=k;have ă:=hk.mz;have ċ:=hk.ml;have ā:=hk.me;unfold Kp.cs xE ja wV;simp only at ă ċ ā⊢;have hp:=bE km;have hE:=sG cV km;have Ā:=bW cV km;have w: ∀m∈km,ar cfg 53 [RV m.nn m.nz m.c.2] []=O (cH m.c.2, []):=fun m hm=>wI m.nn m.nz m.c.2 (ā m hm).nz (ā m hm).nl;obtain ⟨SS,ń⟩: ∃SS:σ->X AV,SS=fun i=>((km.take i).map fun m=>m.c.2).map cH:=⟨_,rfl⟩;have hS0:SS 0= []:=by rw [ń];rfl
 have hSn:SS (Ê km)=((km.map Me.c).map ϔ).map cH:=by rw [ń];simp only [γ];simp
 have hSs: ∀i (h:i<Ê km),SS (i+1)=SS i++ [cH km[i].c.2]:=fun i h=>by
  rw [ń];simp only;rw [U h,ε,ε];rfl
 have ħ: ∀i,i<=Ê km->(SS i).length=i:=fun i hi=>by rw [ń];simp;omega
 have đ: ∀i,ak (SS i)=true:=fun i=>by rw [ń];exact df (fun x=>by simp [cH,AV.plain,aM]) _
 rw [<-hSn];clear ń hSn ā;generalize km.map cV=KM at*
 simp (maxSteps:=9^9) (disch:=omega) [-G,-H,-C,-I,-J,om,acz,ab,Ā,hp]
 refine Wp.az (fun (i:σ)=>Ê km-i) (fun i=> [K,K,O (Ζ 1 0),O (Ζ 3 0),K,K,O (κ mn mz KM),O (T Q (Ê km)),O (T Q i),K,K,K,K,K,K])
  (fun i=> [ο 31 [T Q ku,Z kl,κ mn mz KM],ο 49 [T Q 0,Z [],ό 2 0],Ξ ⟨ι,O 58,K⟩ 3 [],ο 49 [T Q ku,Z kl,ό 4 i],Ξ ⟨ι,O 58,K⟩ 3 (SS i)])
  (fun i=>i<=Ê km) ?_ 0 (by omega) (by simp) (by simp [hS0])
 clear hS0;rintro i Ă;have h2:=ħ i Ă;have h3:=đ i;by_cases h1:i<Ê km
 ·have hg:=hE i h1;obtain rfl:=ă (ne_of_lt h1);have hs:=hSs i h1;have w1:=w km[i] (θ h1);clear hE w hSs ħ đ;generalize km[i]=m at*
  simp only [IN] at hg;unfold RV at w1;unfold cH at w1 hs;have ţ:=aM m.c.2.nodes;simp (maxSteps:=9^9) (disch:=omega) [-G,-H,-C,-I,-J,om,h1,hg,Ā,ab,w1,h2,ţ,aS];exact ⟨i+1,by omega,by omega,by simp,rfl,hs.symm⟩
 ·obtain rfl:i=Ê km:=by omega
  simp (maxSteps:=9^9) (disch:=omega) [-G,-H,-C,-I,-J,om,Ā,ab,h2,h3,hp]
def rm (p:Cell×ae->Ρ):X (Cell×ae)->σ->Int
 | [],_=> -1
 | s::r,i=>if p s=ν then (i:Int) else rm p r (i+1)
theorem BZ (p:Cell×ae->Ρ): ∀(l:X (Cell×ae)) (i:σ),0<=rm p l i↔l.any p=ν
 | [],i=>by simp [rm]
 | x::r,i=>by
  unfold rm;by_cases h:p x=ν
  ·rw [Κ h,Ϡ,h];simp
  ·rw [ρ h,BZ p r (i+1),Ϡ];simp [h]
theorem R2 (nl:υ Ρ) (z:σ) (l:X (Cell×ae)) (hz:l≠ []->z=3) (hl:Ê l<1000000) (f:FuncId) (Ņ:DP f) (j:σ) (bs:X af) (p:Cell×ae->Ρ)
  (hf: ∀s:Cell×ae,ar cfg f [lR s,Ζ j 0] bs=O (φ (p s),bs)) (hj:j<Ê bs) (Ť:shut (Ê bs) bs=ν):
  ar cfg 108 [κ nl z (aN l),.fn f [] [Ζ j 0]] bs=O (T Q (rm p l 0),bs):=by
 refine aa ab3 WO ?_;have hLl:=fm l;have hE: ∀i (h:i<Ê l),(aN l)[i]?=O (lR l[i]):=fun i h=>get_map _ _ h;generalize aN l=E at*
 obtain ⟨n1,n2,n3,n4⟩:=Ņ;simp only [exts,wL,L5,kg] at n1 n2 n3 n4;have hm:=shut_map (Ϣ _) Ť;simp (maxSteps:=9^9) (disch:=omega) [-G,-H,-C,-I,-J,om,TC,hLl];refine Wp.az (fun (i:σ)=>Ê l-i) (fun i=> [O (κ nl z E),O (.fn f [] [Ζ j 0]),K,K,O (T Q (Ê l)),O (T Q i),K,K]) (fun _=>bs) (fun i=>rm p l 0=rm p (l.drop i) i/\i<=Ê l) ?_ 0 ⟨by simp,by omega⟩ (by simp) rfl;rintro i ⟨hi,Ă⟩;rw [hi];clear hi;by_cases h1:i<Ê l
 ·have hg:=hE i h1;have hs:=hf l[i];obtain rfl:=hz (ne_of_lt h1);rw [W h1];simp only [rm];generalize l[i]=x at*
  obtain ⟨⟨x1,x2⟩,t⟩:=x;unfold lR at hg hs;simp only at hg hs;generalize p ((x1,x2),t)=px at*
  clear hE hf;cases px with
  | true=>simp (maxSteps:=9^9) (disch:=omega) [-G,-H,-C,-I,-J,om,h1,hg,hs,n1,n2,n3,n4,hj,hm]
  | false=>rw [ρ (by simp)];simp (maxSteps:=9^9) (disch:=omega) [-G,-H,-C,-I,-J,om,h1,hg,hs,n1,n2,n3,n4,hj,hm];exact ⟨i+1,⟨rfl,by omega⟩,by omega,by simp⟩
 ·rw [δ (by omega)];simp (maxSteps:=9^9) (disch:=omega) [-G,-H,-C,-I,-J,om,h1,rm]
theorem R3 (nl:υ Ρ) (z:σ) (l:X (Cell×ae)) (hz:l≠ []->z=3) (hl:Ê l<1000000) (f:FuncId) (Ņ:DP f) (j:σ) (bs:X af) (p:Cell×ae->Ρ)
  (hf: ∀s:Cell×ae,ar cfg f [lR s,Ζ j 0] bs=O (φ (p s),bs)) (hj:j<Ê bs) (Ť:shut (Ê bs) bs=ν):
  ar cfg 61 [κ nl z (aN l),.fn f [] [Ζ j 0]] bs=O (φ (l.any p),bs):=by
 refine aa ae7 acA ?_;have h:=R2 nl z l hz hl f Ņ j bs p hf hj Ť;have hm:=shut_map (Ϣ _) Ť;have Ě:=aS l;have hd:=BZ p l 0;generalize aN l=E at*
 generalize rm p l 0=q at*
 obtain ⟨n1,n2,n3,n4⟩:=Ņ;simp only [exts,wL,L5,kg] at n1 n2 n3 n4;clear hf;cases hb:l.any p with
 | true=>have hq:=hd.2 hb;simp (maxSteps:=9^9) (disch:=omega) [-G,-H,-C,-I,-J,om,WQ,h,Ě,hq,hj,hm]
 | false=>
  have hq: ¬ 0<=q:=fun h=>by rw [hd.1 h] at hb;cases hb
  simp (maxSteps:=9^9) (disch:=omega) [-G,-H,-C,-I,-J,om,WQ,h,Ě,hq,hj,hm]
theorem Pp (k0:X AV) (nl:υ Ρ) (z:σ) (cs:X Cell) (hz:cs≠ []->z=2) (hl:Ê cs<1000000) (N m:X AV) (hk0:k0.map (forget 4)=k0) (hm:m.map (forget 4)=m) (s:Cell×ae):
  ar cfg 62 [lR s,Ζ 1 0] [ο 31 k0,ο 65 [κ nl z (fI cs)],Ξ ⟨ι,O 3,K⟩ 1 N,ο 60 m]
   =O (φ (decide (s.1∈cs)), [ο 31 k0,ο 65 [κ nl z (fI cs)],Ξ ⟨ι,O 3,K⟩ 1 N,ο 60 m]):=by
 refine aa ae8 acB ?_;have w:=Rs nl z cs hz hl s.1;have hp:=iS cs;obtain ⟨⟨x1,x2⟩,t⟩:=s;unfold lR im at*
 simp only at w⊢;generalize fI cs=E at*
 simp (maxSteps:=9^9) (disch:=omega) [-G,-H,-C,-I,-J,om,acC,ab,w,hp,hk0,hm]
theorem R4 (k:Kp) (hk:k.ok) (nl:υ Ρ) (z:σ) (cs:X Cell) (hz:cs≠ []->z=2) (hl:Ê cs<1000000):ar cfg 30 [ja k,κ nl z (fI cs)] []=O (κ K 1 (fa (JL k.cs cs)), []):=by
 refine aa ae1 acD ?_;obtain ⟨ku,kl,km,mn,mz⟩:=k;have ă:=hk.mz;have ċ:=hk.ml;have ā:=hk.me;unfold Kp.cs ja wV;simp only at ă ċ ā⊢;have hp:=bE km;have hE:=sG cV km;have Ā:=bW cV km;have ī:=iS cs;have w:=fun k0 N m h1 h2=>Pp k0 nl z cs hz hl N m h1 h2;obtain ⟨NL,Ė⟩: ∃NL:σ->X Int,NL=fun i=>((km.take i).filter fun m=>m.c.1.any fun r=>decide (r.1∈cs)).map fun m=>m.c.2.unit:=⟨_,rfl⟩;have ľ:NL 0= []:=by rw [Ė];rfl
 have ō:JL (km.map Me.c) cs=NL (Ê km):=by rw [Ė];simp only [γ];unfold JL;rw [List.filter_map,ψ];rfl
 have Ŏ: ∀i (h:i<Ê km),NL (i+1)=NL i++(if (km[i].c.1.any fun r=>decide (r.1∈cs))=ν then [km[i].c.2.unit] else []):=fun i h=>by
  rw [Ė];simp only;rw [U h,ϐ,ε];cases hq:km[i].c.1.any (fun r=>decide (r.1∈cs)) <;> simp [hq]
 have ŏ: ∀i,i<=Ê km->(NL i).length<=i:=fun i hi=>by
  rw [Ė];have:=ύ (fun m:Me=>m.c.1.any fun r=>decide (r.1∈cs)) (km.take i);rw [μ] at this;simp only [η];omega
 rw [ō];clear Ė ō;generalize km.map cV=KM at*
 simp (maxSteps:=9^9) (disch:=omega) [-G,-H,-C,-I,-J,om,acE,ab,Ā,hp,ī]
 refine Wp.az (fun (i:σ)=>Ê km-i) (fun i=> [K,K,K,O (Ζ 1 0),K,O (ό 2 (NL i).length),K,O (κ mn mz KM),O (T Q (Ê km)),O (T Q i),K,K,K,K,K,K,K])
  (fun i=> [ο 31 [T Q ku,Z kl,κ mn mz KM],ο 65 [κ nl z (fI cs)],Ξ ⟨ι,O 3,K⟩ 1 (fa (NL i))])
  (fun i=>i<=Ê km) ?_ 0 (by omega) (by simp [ľ]) (by simp [ľ,fa])
 clear ľ;rintro i Ă;have h2:=IM (NL i);have h3:=gC (NL i);have h4:=ŏ i Ă;by_cases h1:i<Ê km
 ·have hg:=hE i h1;obtain rfl:=ă (ne_of_lt h1);have hs:=Ŏ i h1;have ĕ:=ā km[i] (θ h1);have w1:=R3 km[i].rn km[i].rz km[i].c.1 ĕ.rz ĕ.rl 62 ⟨rfl,rfl,rfl,rfl⟩ 1 _ (fun s=>decide (s.1∈cs)) (w [T Q ku,Z kl,κ mn 4 KM] (fa (NL i)) [κ km[i].rn km[i].rz (aN km[i].c.1),T Q km[i].c.2.unit,Z km[i].c.2.num,κ km[i].nn km[i].nz (km[i].c.2.nodes.map dF)] (by simp [forget,AV.under,aA]) (by simp [forget,AV.under,aA])) (by simp) (by simp [shut,aA,AV.under]);clear hE w Ŏ ŏ ā ĕ;generalize km[i]=m at*
  simp only [IN] at hg;have ţ:=aM m.c.2.nodes;generalize hq:(m.c.1.any fun r=>decide (r.1∈cs))=q at*
  cases q with
  | true=>
   rw [Κ rfl] at hs;have ś:fa (NL (i+1))=fa (NL i)++ [T Q m.c.2.unit]:=by rw [hs];simp [fa]
   have hs3:(NL (i+1)).length=(NL i).length+1:=by rw [hs];simp
   simp (maxSteps:=9^9) (disch:=omega) [-G,-H,-C,-I,-J,om,h1,hg,Ā,ab,w1,h2,ţ,aS,ī];exact ⟨i+1,by omega,by omega,⟨hs3.symm,by simp⟩,ś.symm⟩
  | false=>rw [ρ (by simp),Λ] at hs;simp (maxSteps:=9^9) (disch:=omega) [-G,-H,-C,-I,-J,om,h1,hg,Ā,ab,w1,h2,ţ,aS,ī];exact ⟨i+1,by omega,by omega,⟨by rw [hs],by simp⟩,by rw [hs]⟩
 ·obtain rfl:i=Ê km:=by omega
  simp (maxSteps:=9^9) (disch:=omega) [-G,-H,-C,-I,-J,om,Ā,ab,h2,h3,hp,ī]
theorem Pq {l:X Cell} (hn:l.Nodup) {S:X Cell} (hS:ko S) (hm: ∀z,z∈l↔z∈S):zs l=S:=by
 have hp:(zs l).Perm l:=by unfold zs;exact List.mergeSort_perm _ _
 refine zJ _ _ (mr _ (hp.nodup_iff.2 hn) ?_) hS (fun z=>by rw [hp.mem_iff];exact hm z);unfold zs
 have hs:=List.pairwise_mergeSort (le:=fun x y:Cell=> !decide (gS y x<0)) (fun a b c h1 h2=>by
  simp only [Υ,ζ,gm] at h1 h2⊢;rw [gT] at*;omega) (fun a b=>by
  simp only [Bool.or_eq_true,Υ,ζ,gm];rw [gT,gT];omega) l
 refine hs.imp fun {a b} hab=> ?_;simp only [Υ,ζ,gm] at hab;exact hab
theorem Dz (nl Ħ:υ Ρ) (z z':σ) (l m:X Int) (hz:l≠ []->z=1) (ň:m≠ []->z'=1) (hl:Ê l<1000000) (hm:Ê m<1000000):ar cfg 21 [κ nl z (fa l),κ Ħ z' (fa m)] []=O (φ (decide (l=m)), []):=by
 refine aa aeY acF ?_;have hE:=gE7 l;have ğ:=gE7 m;have Ā:=IM l;have ě:=IM m;generalize fa l=E at*
 generalize fa m=E' at*
 by_cases hlm:Ê l=Ê m
 case neg=>
  have h2:((Ê l:Int) !=(Ê m:Int))=true:=by rw [ϝ];omega
  have h3: ¬ l=m:=fun h=>hlm (by rw [h]);simp (maxSteps:=9^9) (disch:=omega) [-G,-H,-C,-I,-J,om,WR,Ā,ě,h2,h3]
 have h2:((Ê l:Int) !=(Ê m:Int))=false:=by rw [Μ];omega
 simp (maxSteps:=9^9) (disch:=omega) [-G,-H,-C,-I,-J,om,WR,Ā,ě,h2];refine Wp.az (fun (i:σ)=>Ê l-i) (fun i=> [O (κ nl z E),O (κ Ħ z' E'),K,K,K,O (T Q (Ê l)),O (T Q i),K,K]) (fun _=> []) (fun i=>(l=m↔l.drop i=m.drop i)/\i<=Ê l) ?_ 0 ⟨by simp,by omega⟩ (by simp) rfl;rintro i ⟨hi,Ă⟩;by_cases h1:i<Ê l
 ·have Ą:i<Ê m:=by omega
  have hg:=hE i h1;have Ĝ:=ğ i Ą;obtain rfl:=hz (ne_of_lt h1);obtain rfl:=ň (ne_of_lt Ą);rw [W h1,W Ą,ϊ] at hi;clear hE ğ;generalize l[i]=r at*
  generalize m[i]=r' at*
  by_cases q:r=r'
  ·subst q;simp only [true_and] at hi;simp (maxSteps:=9^9) (disch:=omega) [-G,-H,-C,-I,-J,om,h1,Ą,hg,Ĝ,Ā,ě];exact ⟨i+1,⟨hi,by omega⟩,by omega,by simp⟩
  ·have h3: ¬ l=m:=fun h=>q (hi.1 h).1;have q2:(r !=r')=true:=by simpa using q
   clear hi;simp (maxSteps:=9^9) (disch:=omega) [-G,-H,-C,-I,-J,om,h1,Ą,hg,Ĝ,Ā,ě,q,q2,h3]
 ·rw [δ (by omega),δ (by omega)] at hi;have Ũ:l=m:=hi.2 rfl;simp (maxSteps:=9^9) (disch:=omega) [-G,-H,-C,-I,-J,om,h1,Ā,ě,Ũ]
theorem WS {bs:X af} {k clock:σ} {m:X (Cell×σ)} (h:af.at bs k= .mp (m.map nr) clock) (z:Cell):cv cfg (cfg.ti 101) (.cg k) (im z) ι bs=O (φ (decide (z∈m.map Y)),.none):=by
 have hf:=Cd z m 0;cases hq:mE z m 0 with
 | none=>
  have hn:=rC z m 0 hq
  have hd:decide (z∈m.map Y)=false:=by rw [ζ];intro hm;obtain ⟨e,he,rfl⟩:=List.mem_map.1 hm;exact hn e he rfl
  rw [hd];rw [hq] at hf;unfold im at*
  simp [cv,dJ,jy,kr,bU,gD,jc,h,hf,-bu]
 | some p=>
  obtain ⟨j,e⟩:=p;obtain ⟨_,hj,he⟩:=kj z m 0 j e hq
  have hd:decide (z∈m.map Y)=true:=by rw [ξ];exact List.mem_map.2 ⟨e,Ϗ hj,he⟩
  rw [hd];rw [hq] at hf;unfold im at*
  simp [cv,dJ,jy,kr,bU,gD,jc,h,hf,-bu,nr]
structure InM (M:X (Cell×σ)) (F:X Cell) (rs:X (Cell×ae)) (j:σ):Prop where
 h: ∀z,z∈M.map Y↔z∈F\/z∈(rs.take j).map Y
theorem Pr {m:X (Cell×σ)} {ck:σ} {z:Cell} (h:z∉m.map Y):gr m ck z=m++ [(z,ck)]/\fc m ck z=ck+1:=by
 unfold gr fc;cases hq:mE z m 0 with
 | none=>exact ⟨rfl,rfl⟩
 | some p=>obtain ⟨j,e⟩:=p;obtain ⟨_,hj,he⟩:=kj z m 0 j e hq;exact Ϛ (List.mem_map.2 ⟨e,Ϗ hj,he⟩) h
theorem Ps (k:Kp) (hk:k.ok) (hne:iR k.cs≠ []) (hT:(iR k.cs).length<1000000):ar cfg 29 [ja k] []=O (κ K 2 (fI (iR k.cs)), []):=by
 refine aa ae0 acH ?_;obtain ⟨ku,kl,km,mn,mz⟩:=k;have ă:=hk.mz;have ċ:=hk.ml;have ā:=hk.me;have Ĥ:=fun z=>Ie (l:=km.map Me.c) (z:=z);have ĸ:=Ig (km.map Me.c);unfold Kp.cs at*
 unfold ja wV;simp only at ă ċ ā hne hT Ĥ ĸ⊢;have hp:=bE km;have hE:=sG cV km;have Ā:=bW cV km;obtain ⟨FF,hFF⟩: ∃FF:σ->X Cell,FF=fun i=>(km.take i).flatMap fun m=>m.c.1.map Y:=⟨_,rfl⟩;have ű:FF 0= []:=by rw [hFF];rfl
 have Ų: ∀i (h:i<Ê km),FF (i+1)=FF i++km[i].c.1.map Y:=fun i h=>by
  rw [hFF];simp only;rw [U h,List.flatMap_append];simp
 have hFn: ∀z,z∈FF (Ê km)↔z∈iR (km.map Me.c):=fun z=>by
  rw [Ĥ,hFF];simp only [γ,ϙ,Ω];constructor
  ·rintro ⟨m,hm,h⟩;exact ⟨m.c,⟨m,hm,rfl⟩,h⟩
  ·rintro ⟨_,⟨m,hm,rfl⟩,h⟩;exact ⟨m,hm,h⟩
 have ę: ∀i,∀z∈FF i,z∈iR (km.map Me.c):=fun i z hz=>by
  rw [Ĥ];rw [hFF] at hz;simp only [ϙ] at hz;obtain ⟨m,hm,h⟩:=hz;exact ⟨m.c,List.mem_map.2 ⟨m,Ι hm,rfl⟩,h⟩
 clear Ĥ hFF;generalize iR (km.map Me.c)=CS at*
 have Ę: ∀{M:X (Cell×σ)} {ck:σ},xv M ck->(∀z∈M.map Y,z∈CS)->Ê M<1000000:=fun {M ck} h1 h2=>by
  have h3:=nu (f:=id) (l:=M.map Y) (M:=CS) (by simpa using h1.keys) h2;rw [η] at h3;omega
 generalize km.map cV=KM at*
 simp (maxSteps:=9^9) (disch:=omega) [-G,-H,-C,-I,-J,om,acI,ab,Ā,hp,gW]
 refine Wp.az (fun (a:σ×X (Cell×σ)×σ)=>Ê km-a.1) (fun a=> [K,K,K,O (.cg 1),O (ό 2 a.2.1.length),K,K,K,O (κ mn mz KM),O (T Q (Ê km)),O (T Q a.1),K,K,K,K,K,K,K,K,K,K,K])
  (fun a=> [ο 31 [T Q ku,Z kl,κ mn mz KM],.mp (a.2.1.map nr) a.2.2,Ξ ⟨ι,O 78,K⟩ 2 (fI (a.2.1.map Y))])
  (fun a=>a.1<=Ê km/\xv a.2.1 a.2.2/\InM a.2.1 (FF a.1) [] 0) ?_ (0, [],0) ⟨by omega,⟨Ο,Ο,fun e h=>by cases h⟩,⟨fun z=>by rw [ű];simp⟩⟩ (by simp) (by simp [fI])
 rintro ⟨i,M,ck⟩ ⟨Ă,hok,Ĺ⟩;simp only at Ă hok Ĺ⊢;have hM: ∀z,z∈M.map Y↔z∈FF i:=fun z=>by rw [Ĺ.h];simp
 clear Ĺ;by_cases h1:i<Ê km
 ·have hg:=hE i h1;obtain rfl:=ă (ne_of_lt h1);have č:=Ų i h1;have ĥ:=ę (i+1);have ĕ:=ā _ (θ h1);clear hE Ų hFn ę ű ā hne;generalize km[i]=m at*
  have ė:=ĕ.rz;have Ģ:=ĕ.rl;have pm:=gj m;unfold cV at hg pm;have hRE:=L6 m.c.1;have ı:=fm m.c.1;have pr:=aS m.c.1;generalize aN m.c.1=RD at*
  generalize m.c.2.nodes.map dF=ND at*
  have ĺ: ∀z∈M.map Y,z∈CS:=fun z hz=>ĥ z (by rw [č];exact List.mem_append_left _ ((hM z).1 hz));have Ł:=Ę hok ĺ;have Ĵ:(fI (M.map Y)).length=Ê M:=by simp [fI]
  simp (maxSteps:=9^9) (disch:=omega) [-G,-H,-C,-I,-J,om,h1,hg,Ā,ab,ı,pm,pr,vd,nh,Ĵ]
  refine Wp.az (fun (a:σ×X (Cell×σ)×σ)=>m.c.1.length-a.1) (fun a=> [K,K,K,O (.cg 1),O (ό 2 a.2.1.length),K,K,K,O (κ mn 4 KM),O (T Q (Ê km)),O (T Q i),K,K,O (κ m.rn m.rz RD),O (T Q m.c.1.length),O (T Q a.1),K,K,K,K,K,K])
   (fun a=> [ο 31 [T Q ku,Z kl,κ mn 4 KM],.mp (a.2.1.map nr) a.2.2,Ξ ⟨ι,O 78,K⟩ 2 (fI (a.2.1.map Y)),ο 60 [κ m.rn m.rz RD,T Q m.c.2.unit,Z m.c.2.num,κ m.nn m.nz ND]])
   (fun a=>a.1<=m.c.1.length/\xv a.2.1 a.2.2/\InM a.2.1 (FF i) m.c.1 a.1) ?_ (0,M,ck) ⟨by omega,hok,⟨fun z=>by rw [hM];simp⟩⟩ (by simp) (by simp)
  clear hM hok ĺ Ł Ĵ;rintro ⟨j,M,ck⟩ ⟨hjl,hok,Ĺ⟩;simp only at hjl hok Ĺ⊢;have hM:=Ĺ.h;clear Ĺ
  have ĺ: ∀z∈M.map Y,z∈CS:=fun z hz=>ĥ z (by
   rw [č,Β];rcases (hM z).1 hz with h | h
   ·exact .inl h
   ·rw [List.map_take] at h;exact .inr (Ι h))
  have Ł:=Ę hok ĺ;have Ĵ:(fI (M.map Y)).length=Ê M:=by simp [fI]
  have ŗ:=iS (M.map Y);by_cases h2:j<m.c.1.length
  ·have hr:=hRE j h2;have Ř:=ė (ne_of_lt h2)
   have ĵ:(m.c.1.take (j+1)).map Y=(m.c.1.take j).map Y++ [m.c.1[j].1]:=by rw [U h2,ε];rfl
   clear hRE ĥ č;generalize m.c.1[j]=r at*
   obtain ⟨z,t⟩:=r;simp only at hr ĵ;have lk: ∀B0 l,cv cfg (cfg.ti 101) (.cg 1) (Δ [T Q z.1,T Q z.2]) ι (B0:: .mp (M.map nr) ck::l)=O (φ (decide (z∈M.map Y)),.none):=fun B0 l=>WS rfl z;have up: ∀B0 l,aH cfg (cfg.ti 101) (.cg 1) (Δ [T Q z.1,T Q z.2]) (φ ν) (B0:: .mp (M.map nr) ck::l)=O (Ϟ [],.upd 1 (.mp ((gr M ck z).map nr) (fc M ck z))):=fun B0 l=>PU rfl z;have Ļ:=(iT hok z).1;have ď:=(iT hok z).2;simp only [N9] at lk up;by_cases hin:z∈M.map Y
   ·rw [χ hin] at lk
    have Ĉ:InM M (FF i) m.c.1 (j+1):=⟨fun y=>by
     rw [ĵ,Β,hM y];constructor
     ·rintro (h | h)
      ·exact .inl h
      ·exact .inr (.inl h)
     ·rintro (h | h | h)
      ·exact .inl h
      ·exact .inr h
      ·simp only [Ε] at h;subst h;exact (hM _).1 hin⟩
    clear Ļ ď up hM ĺ hin;simp (maxSteps:=9^9) (disch:=omega) [-G,-H,-C,-I,-J,om,h2,hr,Ř,Ā,ab,ı,lk,vd,nh,Ĵ,ŗ,pm,pr];exact ⟨j+1,M,ck,⟨by omega,hok,Ĉ⟩,by omega,by simp⟩
   ·rw [Γ hin] at lk;obtain ⟨e1,e2⟩:=Pr (ck:=ck) hin;rw [e1,e2] at up Ļ;rw [e1] at ď
    have Ĉ:InM (M++ [(z,ck)]) (FF i) m.c.1 (j+1):=⟨fun y=>by
     rw [ď,ĵ,Β,hM y,Ε,or_assoc]⟩
    have hcs:fI ((M++ [(z,ck)]).map Y)=fI (M.map Y)++ [Δ [T Q z.1,T Q z.2]]:=by simp [fI,im]
    have hlm:(M++ [(z,ck)]).length=Ê M+1:=by simp
    generalize M++ [(z,ck)]=M' at*
    clear ď hM ĺ hin e1 e2;simp (maxSteps:=9^9) (disch:=omega) [-G,-H,-C,-I,-J,om,h2,hr,Ř,Ā,ab,ı,lk,up,vd,nh,Ĵ,ŗ,pm,pr];exact ⟨j+1,M',ck+1,⟨by omega,Ļ,Ĉ⟩,by omega,by simp [hlm],by simp [hcs]⟩
  ·obtain rfl:j=m.c.1.length:=by omega
   rw [γ] at hM;have Ĉ:InM M (FF (i+1)) [] 0:=⟨fun z=>by rw [hM,č,Β];simp⟩;clear hM ĺ hRE ĥ č;simp (maxSteps:=9^9) (disch:=omega) [-G,-H,-C,-I,-J,om,ı,Ā,ab,vd,nh,Ĵ,ŗ,pm,pr];exact ⟨i+1,M,ck,⟨by omega,hok,Ĉ⟩,by omega,by simp⟩
 ·obtain rfl:i=Ê km:=by omega
  have ť: ∀z,z∈M.map Y↔z∈CS:=fun z=>by rw [hM,hFn]
  have Ł:=Ę hok (fun z hz=>(ť z).1 hz);have hsk:=Pq hok.keys ĸ ť;have Ĵ:(fI (M.map Y)).length=Ê M:=by simp [fI]
  have ŗ:=iS CS;have hcf:zr (fI (M.map Y))=O (M.map Y):=BU _
  have hMne:M.map Y≠ []:=fun h=>hne (by
   cases hc:CS with
   | nil=>rfl
   | cons z r=>
    have:=(ť z).2 (by rw [hc];simp);rw [h] at this;cases this)
  have ř:=hok.keys;have ķ:CS.map Rk=fI CS:=rfl;have hml2:=bW Y M
  have hlc:(fI CS).length=Ê M:=by rw [<-hsk];unfold fI zs;simp
  clear hM ť hFn Ų ę ű hE hok ĸ Ę;generalize fI (M.map Y)=CM at*
  generalize M.map Y=MF at*
  simp (maxSteps:=9^9) (disch:=omega) [-G,-H,-C,-I,-J,om,Ā,ab,Ĵ,vd,nh,Du,hcf,hMne,ř,hsk,ķ,hml2,hlc,ŗ,hp]
set_option maxRecDepth 100000
def lP:Ct:=⟨[[101,110], [100,101]], [⟨1, [100,101], [73,110,104,97,108,116],0⟩,⟨1, [101,110], [67,111,110,116,101,110,116,115],0⟩],
 [⟨7,0,1, [65], [84,111,119,110], [⟨1, [100,101], [65,108,108,101,115]⟩,⟨1, [101,110], [83,101,101,32,91,57,93]⟩],K,3⟩,⟨9,7,3, [], [71,97,116,101], [⟨2, [100,101], [120]⟩],K,3⟩],K,1,K,4,K,6⟩
theorem Pt:lP.ok:=⟨by simp [lP],by simp [lP],by simp [lP],by simp [lP],by simp [lP],by simp [lP],fun s hs=>by
 simp only [lP,List.mem_cons,List.not_mem_nil,or_false] at hs;rcases hs with rfl | rfl <;> exact ⟨by simp,by simp⟩⟩
def Ca:X Mm:=bY P aB JX 7 [101,110] []
def Ma:X Mm:=bY P aB BH 7 [101,110] Ca
def L0:X Mm:=bY P aB lP 7 [101,110] Ma
def mbB (m:Mm):Ρ:=decide (m.1.length<1000000)&&decide (m.2.nodes.length<1000000)&&m.1.all fun r=>decide (r.2.length<=1000)&&(splitB 10 r.2.dropLast).all fun p=>decide (Ê p<=1000)
theorem Cb {l:X Mm} (h:l.all mbB=ν): ∀m∈l,MB m:=fun m hm=>by
 have h:=List.all_eq_true.1 h m hm;unfold mbB at h;simp only [ϖ,ξ,Ψ] at h;obtain ⟨⟨h1,h2⟩,h3⟩:=h;refine ⟨h1,h2,fun r hr=> ?_⟩;obtain ⟨h4,h5⟩:=h3 r hr;exact ⟨fun _=>by omega,fun _=>⟨by omega,fun p hp=>by have:=h5 p hp;omega⟩,fun _=>h4⟩
theorem Pv:Ca.all mbB=true:=by decide+kernel
theorem Pw:Ma.all mbB=true:=by decide+kernel
theorem Px:L0.all mbB=true:=by decide+kernel
theorem WT:Ê Ca=2/\Ê Ma=2/\Ê L0=2:=by decide+kernel
theorem Py:db ag Ca=0/\db ag Ma=0/\db ag L0=0:=by decide+kernel
theorem R5:aW JX 7 [101,110]=0/\aW BH 7 [101,110]=0/\aW lP 7 [101,110]=0:=by decide+kernel
theorem R6:ju P aB BH 7 [101,110] Ca= [7,9]/\ju P aB lP 7 [101,110] Ma= [9]:=by decide+kernel
theorem R7:JL Ca [(4,9)]= [7]:=by decide+kernel
theorem zK:(iR Ca).length=6:=by decide+kernel
theorem DG {u:Int} {l:ae} {M:X Mm} (hm: ∀m∈M,MB m): ∀m∈(Ab u l M).b8,m.Tl:=fun m h=>by
 simp only [Ab,Ω] at h;obtain ⟨x,hx,rfl⟩:=h;exact ⟨⟨fun _=>rfl,fun _=>rfl,(hm x hx).rl,(hm x hx).nl⟩,fun _=>rfl,(hm x hx).bd⟩
theorem Pz (V1:X AV) (hV:ak V1=ν):ar cfg 34 [] [ο 31 [T Q 7,Z [101,110],κ K 4 V1],ο 26 [ό 5 2,ό 6 2,ό 8 2],Ξ ⟨ι,O 9,K⟩ 1 [],Ξ ⟨ι,O 80,K⟩ 4 [],Ξ ⟨ι,O 74,K⟩ 6 [],Ξ ⟨ν,O 9,K⟩ 1 [Z [101,110],Z [100,101]],Ξ ⟨ν,O 80,K⟩ 4 L9,Ξ ⟨ν,O 76,K⟩ 3 LH,Ξ ⟨ν,O 74,K⟩ 6 Rt,ϣ]=O (Δ [ό 14 2,ό 15 2,ό 17 2], [ο 31 [T Q 7,Z [101,110],κ K 4 V1],ο 26 [ό 5 2,ό 6 2,ό 8 2],Ξ ⟨ι,O 9,K⟩ 1 [],Ξ ⟨ι,O 80,K⟩ 4 [],Ξ ⟨ι,O 74,K⟩ 6 [],Ξ ⟨ν,O 9,K⟩ 1 [Z [101,110],Z [100,101]],Ξ ⟨ν,O 80,K⟩ 4 L9,Ξ ⟨ν,O 76,K⟩ 3 LH,Ξ ⟨ν,O 74,K⟩ 6 Rt,ϣ,ο 26 [ό 14 2,ό 15 2,ό 17 2],Ξ ⟨ι,O 9,K⟩ 1 [],Ξ ⟨ι,O 80,K⟩ 4 [],Ξ ⟨ι,O 74,K⟩ 6 [],Ξ ⟨ι,O 9,K⟩ 1 [Z [101,110],Z [100,101]],Ξ ⟨ι,O 80,K⟩ 4 L9,Ξ ⟨ν,O 76,K⟩ 3 LH,Ξ ⟨ι,O 74,K⟩ 6 Rt]):=by refine aa Wc Ot ?_;simp (maxSteps:=9^9) (disch:=omega) [-G,-H,-C,-I,-J,om,Ru,ab,L9,LH,Rt,hV]
def twG:X AV:= [Δ [T Q 7,T Q 0,T Q 1,Z [65],Z [84,111,119,110],κ K 3 LH],Δ [T Q 9,T Q 7,T Q 3,Z [],Z [71,97,116,101],κ (O ν) 0 []]]
theorem Jb (B0 B1 B2 B3 B4 B5 B6 B7 B8 B9 B10 B11 B12 B13 B16:af) (l:X af):dK (Ϟ [Δ [T Q 7,Z [101,110],κ K 4 (Ma.map uw)],κ K 1 [T Q 7,T Q 9],T Q 0]) (B0::B1::B2::B3::B4::B5::B6::B7::B8::B9::B10::B11::B12::B13:: Ξ ⟨ι,O 9,K⟩ 1 [Z [101,110],Z [100,101]]:: Ξ ⟨ι,O 80,K⟩ 4 L9::B16:: Ξ ⟨ι,O 74,K⟩ 6 twG::l) [ό 14 2,ό 15 2,ό 17 2]=true:=by kernel_rfl
def twX:X AV:= [Δ [T Q 7,T Q 0,T Q 1,Z [65],Z [84,111,119,110],κ K 3 LH],Δ [T Q 9,T Q 7,T Q 3,Z [],Z [71,97,116,101],κ K 3 [Δ [T Q 2,Z [100,101],Z [120]]]]]
theorem PD (B0 B1 B2 B3 B4 B5 B6 B7 B8 B9 B10 B11 B12 B13 B16:af) (l:X af):dK (Ϟ [Δ [T Q 7,Z [101,110],κ K 4 (L0.map uw)],κ K 1 [T Q 9],T Q 0]) (B0::B1::B2::B3::B4::B5::B6::B7::B8::B9::B10::B11::B12::B13:: Ξ ⟨ι,O 9,K⟩ 1 [Z [101,110],Z [100,101]]:: Ξ ⟨ι,O 80,K⟩ 4 L9::B16:: Ξ ⟨ι,O 74,O (1,5,19,1)⟩ 6 twX::l) [ό 14 2,ό 15 2,ό 17 2]=false:=by kernel_rfl
theorem Tk:ar cfg 9 [] []=O (φ ν, []):=by
 refine aa fn9 afi ?_;have hT0:=Oq;have hT1:=Ou;obtain ⟨l1,l2,l3⟩:=WT;obtain ⟨ch1,ch2,ch3⟩:=Py;obtain ⟨co1,co2,co3⟩:=R5;obtain ⟨an1,an2⟩:=R6;have k1:(Ab 7 [101,110] Ca).ok:=vn (by rw [l1];decide) (Cb Pv);have k2:(Ab 7 [101,110] Ma).ok:=vn (by rw [l2];decide) (Cb Pw);have k3:(Ab 7 [101,110] L0).ok:=vn (by rw [l3];decide) (Cb Px);have i1:=DG (u:=7) (l:= [101,110]) (Cb Pv);have i2:=DG (u:=7) (l:= [101,110]) (Cb Pw);have i3:=DG (u:=7) (l:= [101,110]) (Cb Px);have h1:=J0 JX (JY _) 7 [101,110] co1;have h2:=Dy BH (JY _) (Ab 7 [101,110] Ca) k1 i1 (by rw [vo];exact ch1) co2;have h3:=Dy lP Pt (Ab 7 [101,110] Ma) k2 i2 (by rw [vo];exact ch2) co3;have h4:=WN (Ab 7 [101,110] L0) k3;have h5:=pY (Ab 7 [101,110] L0) k3.mz k3.ml i3;have h6:=R4 (Ab 7 [101,110] Ca) k1 K 2 [(4,9)] (fun _=>rfl) (by simp);have h7:=Ps (Ab 7 [101,110] Ca) k1 (by rw [vo];intro h;have:=zK;rw [h] at this;cases this) (by rw [vo,zK];decide);rw [vo] at h2 h3 h4 h5 h6 h7;have e1:=Dz K K 1 1 [7,9] [7,9] (fun _=>rfl) (fun _=>rfl) (by simp) (by simp);have e2:=Dz K K 1 1 [9] [9] (fun _=>rfl) (fun _=>rfl) (by simp) (by simp);have e3:=Dz K K 1 1 [7] [7] (fun _=>rfl) (fun _=>rfl) (by simp) (by simp);change ar cfg 11 _ []=O (Ϟ [GP 7 [101,110] Ca,_], []) at h1;change ar cfg 16 _ []=O (Ϟ [GP 7 [101,110] Ma,κ K 1 (fa (ju P aB BH 7 [101,110] Ca)),_], []) at h2;change ar cfg 16 _ []=O (Ϟ [GP 7 [101,110] L0,κ K 1 (fa (ju P aB lP 7 [101,110] Ma)),_], []) at h3;rw [an1] at h2;rw [an2] at h3;rw [ch3] at h5;rw [R7] at h6;rw [<-Ix] at h2 h3 h4 h5 h6 h7;have hA:((L0.map ϔ).map cH).length=2:=by rw [η,η];exact l3
 have hC:(fI (iR Ca)).length=6:=by unfold fI;rw [η];exact zK
 have p1:=eZ Ca;have p2:=eZ Ma;have p3:=eZ L0;have p4:ak ((L0.map ϔ).map cH)=true:=df (fun x=>by simp [cH,AV.plain,aM]) _;have p5:=iS (iR Ca);have Jb:=Jb;have PD:=PD;have hT2:=Pz (Ca.map uw) p1;have m1:(Ca.map uw).length=2:=by rw [η];exact l1
 simp only [br,dm,JX,BH,pX,lP,fI,im,xE,fa,au,dc,bw,dQ,Θ,Ν,decide_true] at h1 h2 h3 h4 h5 h6 h7 e1 e2 e3 hC p5;simp only [Ab] at h4;unfold GP at h1 h2 h3 h4 h5 h6 h7;simp only [L9,LH,Rt] at hT0 hT1 hT2;simp only [L9,LH,twG,twX] at Jb PD;generalize (iR Ca).map _=CC at*
 generalize (L0.map ϔ).map _=AA at*
 generalize Ca.map uw=V1 at*
 generalize Ma.map uw=V2 at*
 generalize L0.map uw=V3 at*
 clear l1 l2 l3 ch1 ch2 ch3 co1 co2 co3 an1 an2 k1 k2 k3 i1 i2 i3;simp (maxSteps:=9^9) (disch:=omega) [-G,-H,-C,-I,-J,om,ir9,-dK,Jb,PD,ab,hT0,hT1,hT2,h1,h2,h3,h4,h5,h6,h7,e1,e2,e3,hA,hC,p1,p2,p3,p4,p5,m1]
set_option maxRecDepth 10000
theorem IP (c:Ct) (hc:c.ok) (root u:Int) (lang:ae) (h:(bX P aB c root lang u).2=0):ar cfg 73 [br c,T Q root,Z lang,T Q u] []=O (Ϟ [κ K 3 (aN (bX P aB c root lang u).1),T Q 0], []):=by
 obtain ⟨h0,_⟩:=Br h;unfold bX at h⊢;rw [ρ (by simpa using h0)] at h⊢;have hr:=eh h0;have hk:dU c=0:=(c5 hr).1;have Ņ:=gM (it:=P) (cj hk) (root:=root) (u:=u);rw [Ņ] at h⊢;by_cases h1:eL P c root u= []
 ·rw [Κ h1] at h;exact Ϛ h (by decide)
 ·rw [ρ h1]
  have hq:(fun z=>(z,eV P aB c lang root z))=fun z=>(z,FU P aB c lang root z):=by funext z;unfold eV;rw [Κ hr,JH (cj hk) (c5 hr).2,JG ve (cj hk)]
  rw [hq,FT];exact IG c hc root u lang h0 h1
theorem PA (c:Ct) (hc:c.ok) (root:Int) (lang:ae) (s:mv) (h:(bX P aB c root lang s.unit).2=0):ar cfg 37 [br c,T Q root,Z lang,cH s] []=O (uw ((bX P aB c root lang s.unit).1,s), []):=by
 refine aa ae2 acK ?_;have w:=IP c hc root s.unit lang h;have pr:=aS (bX P aB c root lang s.unit).1;have pn:=aM s.nodes;unfold uw cH br dm at*
 simp only;generalize aN (bX P aB c root lang s.unit).1=R at*
 generalize s.nodes.map dF=N at*
 generalize au c.ad=L1 at*
 generalize c.av.map dc=L2 at*
 generalize c.ai.map bw=L3 at*
 simp (maxSteps:=9^9) (disch:=omega) [-G,-H,-C,-I,-J,om,acL,w,ab,pr,pn]
theorem Gi (c:Ct) (hc:c.ok) (unit:Int) (lang:ae) (h:aW c unit lang≠0):ar cfg 13 [br c,T Q unit,Z lang] []=O (Ϟ [Iw,T Q (aW c unit lang)], []):=by
 refine aa ab0 TD ?_;have w:=zA c hc unit lang;rw [ρ h] at w;have h2:(aW c unit lang !=0)=true:=by simpa using h
 unfold br dm Iw Kj at*
 generalize aW c unit lang=e at*
 generalize au c.ad=L1 at*
 generalize c.av.map dc=L2 at*
 generalize c.ai.map bw=L3 at*
 simp (maxSteps:=9^9) (disch:=omega) [-G,-H,-C,-I,-J,om,WU,w,h,h2,ab]
inductive R8 (c:Ct):X af->Prop where
 | none:R8 c []
 | mak (u:Int) (l:ae) (M:X AV) (h:ak M=ν):R8 c [ο 26 (dm c),ο 31 [T Q u,Z l,κ K 4 M],ϣ]
 | upd (u:Int) (l:ae) (n:υ Ρ) (z:σ) (M:X AV) (h:ak M=ν):R8 c [ο 31 [T Q u,Z l,κ n z M],ο 26 (dm c),ο 31 [T Q 0,Z [],ό 3 0],Ξ ⟨ι,O 60,K⟩ 4 [],ϣ]
theorem uq (c:Ct) (hc:c.ok) (unit:Int) (lang:ae) (bs:X af) (hb:R8 c bs) (h:aW c unit lang=0):ar cfg 13 [br c,T Q unit,Z lang] bs=O (Ϟ [Δ [T Q unit,Z lang,ό (Ê bs+5) (bY P aB c unit lang []).length],T Q 0],bs++ [ο 26 (dm c),ο 31 [T Q unit,Z lang,ό (Ê bs+5) (bY P aB c unit lang []).length],Ξ ⟨ι,O 60,K⟩ 4 [],ο 49 [T Q unit,Z lang,κ K 3 ((fp P c unit lang).map cH)],ο 31 [T Q unit,Z lang,ό (Ê bs+5) (bY P aB c unit lang []).length],Ξ ⟨ι,O 60,K⟩ 4 ((bY P aB c unit lang []).map uw)]):=by
 refine aa ab0 TD ?_;have w:=zA c hc unit lang;rw [Κ h,<-NU (Q5 h) P unit (sM h).2.1,h] at w;have hm:bY P aB c unit lang []=(fp P c unit lang).map fun s=>((bX P aB c unit lang s.unit).1,s):=rfl;rw [hm];have wm: ∀s∈fp P c unit lang,ar cfg 37 [br c,T Q unit,Z lang,cH s] []=O (uw ((bX P aB c unit lang s.unit).1,s), []):=fun s hs=>PA c hc unit lang s (vc h hs);obtain ⟨rd,Ŋ⟩: ∃rd:Int->X (Cell×ae),rd=fun u=>(bX P aB c unit lang u).1:=⟨_,rfl⟩;have Ŕ: ∀u,(bX P aB c unit lang u).1=rd u:=fun u=>by rw [Ŋ]
 simp only [Ŕ,η] at wm⊢
 have hsm:(fp P c unit lang).length<1000000:=by unfold fp;rw [η];have h5:=(gB P unit c.ai ⟨[], []⟩).1;have h6:=hc.sl;omega
 clear hm Ŋ Ŕ;generalize fp P c unit lang=S at*
 have hE:=gE6 S;have Ā:=bW cH S;have đ:ak (S.map cH)=true:=df (fun x=>by simp [cH,AV.plain,aM]) _;obtain ⟨DD,hDD⟩: ∃DD:σ->X AV,DD=fun i=>((S.take i).map fun s=>(rd s.unit,s)).map uw:=⟨_,rfl⟩;have Ĭ:DD 0= []:=by rw [hDD];rfl
 have ĭ:(S.map fun s=>(rd s.unit,s)).map uw=DD (Ê S):=by rw [hDD];simp only [γ]
 have Į: ∀i (h:i<Ê S),DD (i+1)=DD i++ [uw (rd S[i].unit,S[i])]:=fun i h=>by
  rw [hDD];simp only;rw [U h,ε,ε];rfl
 have į: ∀i,i<=Ê S->(DD i).length=i:=fun i hi=>by rw [hDD];simp;omega
 have İ: ∀i,ak (DD i)=true:=fun i=>by rw [hDD];exact eZ _
 unfold xE at w;rw [ĭ];clear hDD ĭ;generalize S.map cH=E at*
 obtain ⟨B0,hB0⟩: ∃B0,B0=bs:=⟨_,rfl⟩;cases hb
 all_goals
  simp only [br,dm] at*
  generalize au c.ad=L1 at*
  generalize c.av.map dc=L2 at*
  generalize c.ai.map bw=L3 at*
 case' mak u l M hM=>skip
 case' upd u l n z M hM=>skip
 all_goals
  simp (maxSteps:=9^9) (disch:=omega) [-G,-H,-C,-I,-J,om,WU,w,ab,đ]
  refine Wp.az (fun (i:σ)=>Ê S-i) (fun i=> [K,O (T Q unit),O (Z lang),O (Ζ (Ê B0) 0),O (Ζ (Ê B0+1) 0),K,O (Ζ (Ê B0+3) 0),K,O (Ζ (Ê B0+4) 0),O (T Q i),K,K,K,K,K,K,K,K,K])
   (fun i=>B0++ [ο 26 [κ c.ln c.lz L1,κ c.bn c.bz L2,κ c.sn c.sz L3],ο 31 [T Q 0,Z [],ό (Ê B0+2) 0],Ξ ⟨ι,O 60,K⟩ 4 [],ο 49 [T Q unit,Z lang,κ K 3 E],ο 31 [T Q unit,Z lang,ό (Ê B0+5) i],Ξ ⟨ι,O 60,K⟩ 4 (DD i)])
   (fun i=>i<=Ê S) ?_ 0 (by omega) (by rw [hB0];simp) (by rw [hB0];simp [Ĭ])
  subst hB0;clear Ĭ w;rintro i Ă;have h2:=į i Ă;have h3:=İ i;by_cases h1:i<Ê S
  ·have hg:=hE i h1;have hs:=Į i h1;have w1:=wm _ (θ h1);clear hE Į į İ wm;generalize S[i]=s at*
   unfold uw at hs w1;unfold cH at w1;simp only at hs w1;have p1:=aS (rd s.unit);have p2:=aM s.nodes;generalize s.nodes.map dF=NN at*
   generalize aN (rd s.unit)=RR at*
   simp (maxSteps:=9^9) (disch:=omega) [-G,-H,-C,-I,-J,om,h1,hg,Ā,ab,w1,h2,h3,p1,p2,đ];exact ⟨i+1,by omega,by omega,by simp,by simp [hs]⟩
  ·obtain rfl:i=Ê S:=by omega
   simp (maxSteps:=9^9) (disch:=omega) [-G,-H,-C,-I,-J,om,Ā,ab,h2,h3,đ]
theorem Gk (k:Kp) (hk:k.ok) (n:σ) (hn:n<=k.b8.length) (u:Int):ar cfg 41 [ja k,T Q n,T Q u] []=O (T Q (jv u ((k.b8.take n).map Me.c) 0), []):=by
 refine aa ae3 acM ?_;obtain ⟨ku,kl,km,mn,mz⟩:=k;have ă:=hk.mz;have ċ:=hk.ml;simp only at ă ċ hn⊢;have hE:=sG cV km;have Ā:=bW cV km;have hp:=bE km;obtain ⟨L,hL⟩: ∃L,L=(km.take n).map Me.c:=⟨_,rfl⟩
 have hLd: ∀i (h:i<Ê km),i<n->L.drop i=km[i].c::L.drop (i+1):=fun i h h'=>by
  have ht:i<(km.take n).length:=by rw [μ];omega
  rw [hL,<-ϡ,W ht,Θ,List.getElem_take,ϡ]
 have hLn:L.drop n= []:=δ (by rw [hL,η,μ];omega);unfold ja wV;simp only;rw [<-hL];clear hL;generalize km.map cV=KM at*
 simp (maxSteps:=9^9) (disch:=omega) [-G,-H,-C,-I,-J,om,acN,ab,Ā,hp]
 refine Wp.az (fun (i:σ)=>n-i) (fun i=> [K,O (T Q n),O (T Q u),O (Ζ 0 0),K,O (T Q i),K,K]) (fun _=> [ο 31 [T Q ku,Z kl,κ mn mz KM]])
  (fun i=>jv u L 0=jv u (L.drop i) i/\i<=n) ?_ 0 ⟨by simp,by omega⟩ (by simp) (by simp)
 rintro i ⟨hi,Ă⟩;rw [hi];clear hi;by_cases h1:i<n
 ·have h2:i<Ê km:=by omega
  have hg:=hE i h2;obtain rfl:=ă (ne_of_lt h2);rw [hLd i h2 h1];simp only [jv];clear hE hLd hLn;generalize km[i]=m at*
  unfold cV at hg;have p1:=aS m.c.1;have p2:=aM m.c.2.nodes;generalize m.c.2.nodes.map dF=NN at*
  generalize aN m.c.1=RR at*
  by_cases q:m.c.2.unit=u
  ·rw [Κ q];simp (maxSteps:=9^9) (disch:=omega) [-G,-H,-C,-I,-J,om,h1,h2,hg,Ā,ab,hp,q,p1,p2]
  ·rw [ρ q];simp (maxSteps:=9^9) (disch:=omega) [-G,-H,-C,-I,-J,om,h1,h2,hg,Ā,ab,hp,q,p1,p2];exact ⟨i+1,⟨rfl,by omega⟩,by omega,by simp⟩
 ·obtain rfl:i=n:=by omega
  rw [hLn];simp (maxSteps:=9^9) (disch:=omega) [-G,-H,-C,-I,-J,om,h1,ab,Ā,hp,jv]
theorem Gl (unit:Int) (l:X (Cell×ae)) (ĉ: ∀r∈l,r.2.length<=1000) (hl:Ê l<1000000) (nl:υ Ρ) (z:σ) (hz:l≠ []->z=3):ar cfg 44 [T Q unit,κ nl z (aN l)] []=O (eA (cu ag unit l), []):=by have Ś:=JZ ĉ;exact O9 unit nl z l hz hl (by have:=Ś (1,unit);omega) (by have:=Ś (2,unit);omega) (fun p hp=>by have:=(eY _ p hp).2;have:=Ś (2,unit);omega) (fun k u _=>Ś (k,u)) (fun p hp=>by have:=(eY _ p hp).2;have:=List.length_dropLast (xs:=(ax l (2,unit)).getD []);have:=Ś (2,unit);omega)
theorem LM (m:Me) (hm:m.ok) (ĉ: ∀r∈m.c.1,r.2.length<=1000):ar cfg 45 [cV m] []=O (φ (pT ag m.c), []):=by
 refine aa ae5 acO ?_;obtain ⟨⟨l,s⟩,rn,rz,nn,nz⟩:=m;have ė:=hm.rz;have Ģ:=hm.rl;simp only at ė Ģ ĉ⊢;have w1: ∀i nl z,(l.eraseIdx i≠ []->z=3)->ar cfg 44 [T Q s.unit,κ nl z (aN (l.eraseIdx i))] []=O (eA (cu ag s.unit (l.eraseIdx i)), []):=fun i nl z hz=>Gl s.unit _ (fun r hr=>ĉ r (Φ hr)) (by have:=Χ l i;omega) nl z hz
 have hne: ∀i,l.eraseIdx i≠ []↔(aN l).take i++(aN l).drop (i+1)≠ []:=fun i=>by
  unfold aN;rw [<-τ,qz,ne_eq,ne_eq,List.map_eq_nil_iff]
 have ő: ∀i,aN (l.eraseIdx i)=(aN l).take i++(aN l).drop (i+1):=fun i=>by
  unfold aN;rw [<-qz,τ]
 have Ċ:=aS l;have Đ:=aM s.nodes;have Ā:=fm l;unfold cV;simp only;generalize aN l=R at*
 generalize s.nodes.map dF=SN at*
 have Ő:pT ag (l,s)=(Η (Ê l)).all fun i=>decide ((cu ag s.unit (l.eraseIdx i)).1≠0):=rfl;simp only [ő,hne] at w1
 have Ğ: ∀i nl z,(R.take i++R.drop (i+1)≠ []->z=3)-> ∃u n Ĕ z2 ns,ak ns=ν/\ar cfg 44 [T Q s.unit,κ nl z (R.take i++R.drop (i+1))] []=O (Ϟ [Δ [T Q u,Z n,κ Ĕ z2 ns],T Q (cu ag s.unit (l.eraseIdx i)).1], []):=fun i nl z hz=>by
  have:=w1 i nl z hz;rw [uo] at this;obtain ⟨u,n,Ĕ,z2,ns,hv⟩:=oj (cu ag s.unit (l.eraseIdx i)).2;rw [hv] at this;exact ⟨u,n,Ĕ,z2,_,aM ns,this⟩
 rw [Ő];clear Ő w1 ő hne;generalize Ć:(fun i=>(cu ag s.unit (l.eraseIdx i)).1)=code at*
 have ķ: ∀i,(cu ag s.unit (l.eraseIdx i)).1=code i:=fun i=>by rw [<-Ć]
 simp only [ķ] at Ğ⊢;clear Ć ķ ĉ;simp (maxSteps:=9^9) (disch:=omega) [-G,-H,-C,-I,-J,om,acP,ab,Ċ,Đ,Ā];refine Wp.az (fun (i:σ)=>Ê l-i) (fun i=> [K,O (Ζ 0 0),K,O (T Q i),K,K,K,K,K,K,K,K,K,K]) (fun _=> [ο 60 [κ rn rz R,T Q s.unit,Z s.num,κ nn nz SN]]) (fun i=>i<=Ê l/\ ∀j,j<i->code j≠0) ?_ 0 ⟨by omega,fun j hj=>Ϛ hj (by omega)⟩ (by simp) (by simp);rintro i ⟨Ă,hi⟩;by_cases h1:i<Ê l
 ·obtain rfl:=ė (ne_of_lt h1);have hc:=Ğ i;obtain ⟨A,hA⟩: ∃A,R.take i=A:=⟨_,rfl⟩;obtain ⟨B,hB⟩: ∃B,R.drop (i+1)=B:=⟨_,rfl⟩;have hAl:Ê A=i:=by rw [<-hA,μ];omega
  have hBl:Ê B=Ê l-(i+1):=by rw [<-hB,Ϙ];omega
  letI:Kn:=⟨[],fun p hp=>by cases hp⟩;have pA:ak A=true:=(ea A).2 fun x hx=>(ea R).1 Ċ x (Ι (by rw [hA];exact hx));have pB:ak B=true:=(ea B).2 fun x hx=>(ea R).1 Ċ x (List.mem_of_mem_drop (by rw [hB];exact hx));rw [hA,hB] at hc;have ĵ:R.take (Ê l)=R:=by rw [<-Ā,γ]
  clear Ğ Ċ
  have Č:code i=0->((Η (Ê l)).all fun i=> !decide (code i=0))=false:=fun hz=>by
   rw [ϓ];exact ⟨i,List.mem_range.2 h1,by simp [hz]⟩
  have hnx:code i≠0-> ∀j,j<i+1->code j≠0:=fun hz j hj=>by
   by_cases e:j=i
   ·rw [e];exact hz
   ·exact hi j (by omega)
  clear hi;generalize ((Η (Ê l)).all fun i=> !decide (code i=0))=VV at*
  have fin:if code i=0 then VV=ι else∃a':σ,(a'<=Ê l/\ ∀(j:σ),j<a'-> ¬code j=0)/\Ê l-a'<Ê l-i/\((i:Int)+1=(a':Int)):=by
   split
   ·rename_i q;exact Č q
   ·rename_i q;exact ⟨i+1,⟨by omega,hnx q⟩,by omega,by simp⟩
  cases A with
  | nil=>
   cases B with
   | nil=>obtain ⟨u,n,Ĕ,z2,ns,po,wo⟩:=hc (O ν) 0 (by simp);simp only [Λ] at wo;simp (maxSteps:=9^9) (disch:=omega) [-G,-H,-C,-I,-J,om,h1,Ā,ab,wo,po,pA,pB,hA,hB,ĵ];exact fin
   | cons b B=>obtain ⟨u,n,Ĕ,z2,ns,po,wo⟩:=hc K 3 (fun _=>rfl);simp only [List.nil_append] at wo;simp only [π,Ϝ] at hAl hBl;simp (maxSteps:=9^9) (disch:=omega) [-G,-H,-C,-I,-J,om,h1,Ā,ab,wo,po,pA,pB,hA,hB,ĵ];exact fin
  | cons a A=>
   obtain ⟨u,n,Ĕ,z2,ns,po,wo⟩:=hc K 3 (fun _=>rfl);cases B with
   | nil=>simp only [Λ] at wo;simp only [π,Ϝ] at hAl hBl;simp (maxSteps:=9^9) (disch:=omega) [-G,-H,-C,-I,-J,om,h1,Ā,ab,wo,po,pA,pB,hA,hB,ĵ];exact fin
   | cons b B=>simp only [ϗ] at wo;simp only [π] at hAl hBl;simp (maxSteps:=9^9) (disch:=omega) [-G,-H,-C,-I,-J,om,h1,Ā,ab,wo,po,pA,pB,hA,hB,ĵ];exact fin
 ·obtain rfl:i=Ê l:=by omega
  have Č:((Η (Ê l)).all fun i=> !decide (code i=0))=true:=by rw [Ψ];intro j hj;have:=hi j (List.mem_range.1 hj);simpa using this
  clear hi Ğ;simp (maxSteps:=9^9) (disch:=omega) [-G,-H,-C,-I,-J,om,Ā,ab,Č,Ċ,Đ]
