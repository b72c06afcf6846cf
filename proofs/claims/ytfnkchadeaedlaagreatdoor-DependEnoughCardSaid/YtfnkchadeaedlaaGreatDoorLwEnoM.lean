/-
 The law DependEnough.
-/
import Derived.Test.YtfnkchadeaedlaaGreatDoorLwSecM
import Derived.Test.YtfnkchadeaedlaaGreatDoorAdM
import Derived.Test.YtfnkchadeaedlaaGreatDoorCatM
set_option linter.all false
namespace Go.Proofs.YtfnkchadeaedlaaGreatDoor
open Go.Am
set_option maxRecDepth 10000
set_option maxHeartbeats 8000000
theorem ansSectOf {c:Ct} (hf:fewC c=true) (root u:Int) (lang:Str) (h:(readsQ Lib.itoa esc c root lang u).2=0):ansF cfg 19 [.int .i64 u,.lst none 3 (rdsA (readsQ Lib.itoa esc c root lang u).1)] []=some (sectA (sectQ unesc u (readsQ Lib.itoa esc c root lang u).1), []):=by
 obtain ⟨S,hi,h1,h2,hr,hv⟩:=readsQ_form h
 have hb:=val_bounds hf root lang
 have hl:=reads_len c root u lang
 rw [hr] at hl⊢
 have hlk:=look_reads (valQ Lib.itoa esc c lang root) S
 have key: ∀(x:Cell) (N:Nat),(valQ Lib.itoa esc c lang root x).length≤N→((lookC (S.map fun z=>(z,valQ Lib.itoa esc c lang root z)) x).getD []).length≤N:=fun x N hN=>by
  rcases hlk x with e | e
  ·rw [e];simp
  ·rw [e];exact hN
 refine ansSectD u _ (fun he=> ?_) hl (key _ _ (hb.one u)) ?_ ?_ (fun k v hk=>key _ _ (hb.more k v hk))
 ·rw [List.map_eq_nil_iff] at he
  rw [he] at h1;cases h1
 ·rcases hlk (2,u) with e | e
  ·rw [e];simp
  ·rw [e];exact hb.two u
 ·rcases hlk (2,u) with e | e
  ·rw [e];intro p hp;simp [splitB] at hp;subst hp;simp
  ·rw [e];intro p hp;have:=hb.twop u p hp;omega
theorem numRun_len (it:Int→Str) (root:Int): ∀(l:List Sh) (st:NS),(numRun it root st l).length≤l.length∧ ∀x∈numRun it root st l,x.1∈l
 | [],st=>by simp [numRun]
 | s::r,st=>by
  unfold numRun
  have h:=numRun_len it root r (numStep it root st s)
  split
  ·refine ⟨by simp only [List.length_cons];omega,fun x hx=> ?_⟩
   rcases List.mem_cons.1 hx with rfl | hx
   ·simp
   ·exact List.mem_cons_of_mem _ (h.2 x hx)
  ·exact ⟨by simp only [List.length_cons];omega,fun x hx=>List.mem_cons_of_mem _ (h.2 x hx)⟩
theorem secP_len {c:Ct} (hc:CtOk c) (order:List Str) {x:Sh×Str} (hx:x.1∈c.shs):(secP Lib.itoa order c x).nodes.length<1000000:=by
 have h1:=chooseP_len order x.1.facts
 have h2:=(hc.shs _ hx).flen
 unfold secP markN
 simp only [List.length_cons,List.length_append,List.length_map]
 split <;> simp <;> omega
theorem esc_ten (s:Str):(10:UInt8)∉esc s:=esc_no (by decide)
theorem ansEnough0 (c:Ct) (hi:c.inn) (root:Int) (lang:Str) (hlang:lang.length≤maxLen):ansF cfg 4 [ctA c,.int .i64 root,.str lang] []=some (.bool true, []):=by
 refine ans_of_wp fn4 low4 ?_
 have a:=awake
 have w1:=ansFewC c hi
 have p2:(ctA c).plain=true:=by simp [ctA,ctC,AV.plain,plainAll]
 unfold maxLen at hlang
 by_cases hall:fewC c=true∧lang.length≤10
 case neg=>
  unfold ctA ctC at*
  generalize strA c.langs=L1 at*
  generalize c.labs.map lbA=L2 at*
  generalize c.shs.map shA=L3 at*
  cases h1:fewC c with
  | false=>
   rw [h1] at w1
   simp (maxSteps:=9^9) (disch:=omega) [-List.map_replicate,-List.map_set,-List.getD_eq_getElem?_getD,-getElem?_pos,-getElem?_neg,om,ir4,a,w1,p2]
  | true=>
   rw [h1] at w1
   have h3: ¬ lang.length≤10:=fun h3=>hall ⟨h1,h3⟩
   simp (maxSteps:=9^9) (disch:=omega) [-List.map_replicate,-List.map_set,-List.getD_eq_getElem?_getD,-getElem?_pos,-getElem?_neg,om,ir4,a,w1,h3,p2]
 obtain ⟨h1,h3⟩:=hall
 rw [h1] at w1
 have hc:=few_ct hi h1
 have hs:=cpC_sim c
 have w2:=ansCopyC c hc
 have w3:=ansCompile (cpC c) (cpC_ok hc) root lang
 rw [hs.comp,hs.aid] at w3
 have p3:(ctA (cpC c)).plain=true:=by simp [ctA,ctC,AV.plain,plainAll]
 by_cases hE:compE c root lang=0
 case neg=>
  rw [if_neg hE] at w3
  have hre:(readsQ Lib.itoa esc c root lang root).2=compE c root lang:=by unfold readsQ;rw [if_pos hE]
  obtain ⟨n,z,w4⟩:=ansReadsE (cpC c) (cpC_ok hc) root root lang (by rw [hs.reads,hre];exact hE)
  rw [hs.reads,hre] at w4
  have hE2:(compE c root lang !=0)=true:=by simpa using hE
  unfold ctA ctC aid0 at*
  generalize strA (cpC c).langs=K1 at*
  generalize (cpC c).labs.map lbA=K2 at*
  generalize (cpC c).shs.map shA=K3 at*
  generalize strA c.langs=L1 at*
  generalize c.labs.map lbA=L2 at*
  generalize c.shs.map shA=L3 at*
  generalize compE c root lang=e at*
  simp (maxSteps:=9^9) (disch:=omega) [-List.map_replicate,-List.map_set,-List.getD_eq_getElem?_getD,-getElem?_pos,-getElem?_neg,om,ir4,a,w1,h3,w2,w3,w4,p2,p3,hE,hE2,splice]
 rw [if_pos hE,hE] at w3
 have hk:=chkC_ok (right_ok (comp_right hE)).1
 have hNl:(numRun Lib.itoa root ⟨[], []⟩ c.shs).length<1000000:=by
  have:=(numRun_len Lib.itoa root c.shs ⟨[], []⟩).1
  have:=hk.slen
  omega
 obtain ⟨NR,hNR⟩: ∃NR,NR=numRun Lib.itoa root ⟨[], []⟩ c.shs:=⟨_,rfl⟩
 have hAP:aidP Lib.itoa c root lang=NR.map (secP Lib.itoa (preferP c.langs lang) c):=by rw [hNR];rfl
 rw [←hNR] at hNl
 have hone: ∀k (h:k<NR.length),(readsQ Lib.itoa esc c root lang NR[k].1.unit).2=0∧sectQ unesc NR[k].1.unit (readsQ Lib.itoa esc c root lang NR[k].1.unit).1=(0,some (secP Lib.itoa (preferP c.langs lang) c NR[k])):=fun k h=>enoughQ unesc_of_esc esc_ten hE (by rw [←hNR];exact List.getElem_mem h)
 have hrd: ∀k (h:k<NR.length),ansF cfg 12 [ctA (cpC c),.int .i64 root,.str lang,.int .i64 NR[k].1.unit] []=some (.tup [.lst none 3 (rdsA (readsQ Lib.itoa esc c root lang NR[k].1.unit).1),.int .i64 0], []):=fun k h=>by
  have:=ansReadsN (cpC c) (cpC_ok hc) root NR[k].1.unit lang (by rw [hs.reads];exact (hone k h).1)
  rw [hs.reads] at this
  exact this
 have hsx: ∀k (h:k<NR.length),ansF cfg 19 [.int .i64 NR[k].1.unit,.lst none 3 (rdsA (readsQ Lib.itoa esc c root lang NR[k].1.unit).1)] []=some (.tup [secA (secP Lib.itoa (preferP c.langs lang) c NR[k]),.int .i64 0], []):=fun k h=>by
  have:=ansSectOf h1 root NR[k].1.unit lang (hone k h).1
  rw [(hone k h).2] at this
  exact this
 have hsl: ∀k (h:k<NR.length),(secP Lib.itoa (preferP c.langs lang) c NR[k]).nodes.length<1000000:=fun k h=>secP_len hk _ ((numRun_len Lib.itoa root c.shs ⟨[], []⟩).2 _ (by rw [←hNR];exact List.getElem_mem h))
 have hsm: ∀k (h:k<NR.length),ansF cfg 20 [secA (secP Lib.itoa (preferP c.langs lang) c NR[k]),secA (secP Lib.itoa (preferP c.langs lang) c NR[k])] []=some (.bool true, []):=fun k h=>ansSameV (some _) (fun s hs=>by cases hs;exact hsl k h)
 have hun: ∀k (h:k<NR.length),(secP Lib.itoa (preferP c.langs lang) c NR[k]).unit=NR[k].1.unit:=fun k h=>rfl
 have hEl:((NR.map (secP Lib.itoa (preferP c.langs lang) c)).map secA).length=NR.length:=by simp
 have hEg: ∀k (h:k<NR.length),((NR.map (secP Lib.itoa (preferP c.langs lang) c)).map secA)[k]?=some (.agg [.int .i64 NR[k].1.unit,.str (secP Lib.itoa (preferP c.langs lang) c NR[k]).num,.lst none 3 ((secP Lib.itoa (preferP c.langs lang) c NR[k]).nodes.map ndA)]):=fun k h=>by
  simp [h];rfl
 rw [hAP] at w3
 unfold aidA at w3
 have p5:plainAll ((NR.map (secP Lib.itoa (preferP c.langs lang) c)).map secA)=true:=plainAll_map (fun x=>by simp [secA,AV.plain,plain_ndA]) _
 generalize (NR.map (secP Lib.itoa (preferP c.langs lang) c)).map secA=E at*
 unfold ctA ctC at*
 generalize strA (cpC c).langs=K1 at*
 generalize (cpC c).labs.map lbA=K2 at*
 generalize (cpC c).shs.map shA=K3 at*
 generalize strA c.langs=L1 at*
 generalize c.labs.map lbA=L2 at*
 generalize c.shs.map shA=L3 at*
 clear hone
 simp (maxSteps:=9^9) (disch:=omega) [-List.map_replicate,-List.map_set,-List.getD_eq_getElem?_getD,-getElem?_pos,-getElem?_neg,om,ir4,a,w1,h3,w2,w3,p2,p3,p5,hEl,splice]
 refine Wp.loopM (fun (x:Nat×Option AV)=>NR.length-x.1) (fun x=> [none,some (.int .i64 root),some (.str lang),some (.ptr 0 0),none,none,none,none,none,none,none,none,none,none,none,none,none,none,none,none,none,none,none,some (.lst none 3 E),some (.int .i64 NR.length),some (.int .i64 x.1),none,none,none,none,none,x.2,none]) (fun x=> [.var 26 [.lst c.ln c.lz L1,.lst c.bn c.bz L2,.lst c.sn c.sz L3],.var 41 [.int .i64 root,.str lang,.lst none 3 E]]) (fun x=>x.1≤NR.length) ?_ (0,none) (by simp) (by simp) (by simp)
 rintro ⟨i,o⟩ hil
 simp only at hil⊢
 by_cases q1:i<NR.length
 ·have g1:=hEg i q1
  have g2:=hrd i q1
  have g3:=hsx i q1
  have g4:=hsm i q1
  have p6:=plain_ndA (secP Lib.itoa (preferP c.langs lang) c NR[i]).nodes
  have p7:=plain_rdsA (readsQ Lib.itoa esc c root lang NR[i].1.unit).1
  rw [show secA (secP Lib.itoa (preferP c.langs lang) c NR[i])= .agg [.int .i64 NR[i].1.unit,.str (secP Lib.itoa (preferP c.langs lang) c NR[i]).num,.lst none 3 ((secP Lib.itoa (preferP c.langs lang) c NR[i]).nodes.map ndA)] from rfl] at g3 g4
  clear hEg hrd hsx hsm hsl hun w3 a
  generalize (secP Lib.itoa (preferP c.langs lang) c NR[i]).nodes.map ndA=NS at*
  generalize (secP Lib.itoa (preferP c.langs lang) c NR[i]).num=nm at*
  generalize rdsA (readsQ Lib.itoa esc c root lang NR[i].1.unit).1=RD at*
  generalize NR[i].1.unit=u at*
  simp (maxSteps:=9^9) (disch:=omega) [-List.map_replicate,-List.map_set,-List.getD_eq_getElem?_getD,-getElem?_pos,-getElem?_neg,om,q1,g1,g2,g3,g4,w2,p2,p3,p6,p7,hEl,splice]
  exact ⟨i+1,by omega,by omega,by simp⟩
 ·simp (maxSteps:=9^9) (disch:=omega) [-List.map_replicate,-List.map_set,-List.getD_eq_getElem?_getD,-getElem?_pos,-getElem?_neg,om,q1,hEl]
theorem ansEnough {xs:List AV} (h:ShpArgs Tryz.prog [26,3,9] xs):ansF cfg 4 xs []=some (.bool true, []):=by
 obtain ⟨c,r,rfl,hc,h⟩:=args_ct h
 obtain ⟨root,r,rfl,_,_,h⟩:=args_int h
 obtain ⟨lang,r,e,hl,h9⟩:=args_strC h
 subst e
 obtain rfl:r= []:=h9
 exact ansEnough0 c hc root lang hl
end Go.Proofs.YtfnkchadeaedlaaGreatDoor
