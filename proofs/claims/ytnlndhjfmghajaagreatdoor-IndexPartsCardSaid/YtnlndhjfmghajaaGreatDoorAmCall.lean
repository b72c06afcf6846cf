/- Calls of the abstract machine are sound: -/
import Derived.Test.YtnlndhjfmghajaaGreatDoorAmOps8
set_option linter.all false
namespace Go.Am
variable [Kn]
section
variable {P:Program} {g:Gh} {bs:List Box} {w:World}
theorem at_take (bs:List Box) (n k:Nat):Box.at ((bs.take n).map (forgetBox n)) k=if k<n then forgetBox n (Box.at bs k) else .dead:=by
 simp only [Box.at,List.getD_eq_getElem?_getD,List.getElem?_map,List.getElem?_take]
 split
 ·cases bs[k]? <;> rfl
 ·rfl
def Gh.hand (g:Gh) (bs:List Box) (n:Nat):Gh:=
 {S:=fun b o=>g.S b o∨ ∃k sh sz es,n≤k∧Box.at bs k= .sl sh sz es∧(g.e k).blk=some b∧o<es.length*sz,e:=fun k=>if k<n then g.e k else .no}
theorem hand_blk {n k b:Nat} (h:((g.hand bs n).e k).blk=some b):k<n∧(g.e k).blk=some b:=by
 simp only [Gh.hand] at h
 split at h
 ·exact ⟨‹_›,h⟩
 ·cases h
theorem Rd.hand_under (n:Nat) {d:AV} {v:Value} (h:Rd g w d v) (hu:d.under n=true):Rd (g.hand bs n) w d v:=by
 have h1:=h.cut n hu
 exact h1.mono (g:=g.cut n) (g':=g.hand bs n) (w:=w) ⟨fun _ _ hs=>Or.inl hs,fun _ _ _=>rfl,fun k=> .same _⟩
theorem Rd.hand_forget (n:Nat) {d:AV} {v:Value} (h:Rd g w d v):Rd (g.hand bs n) w (Am.forget n d) v:=by
 have h1:=h.forget n
 exact h1.mono (g:=g.cut n) (g':=g.hand bs n) (w:=w) ⟨fun _ _ hs=>Or.inl hs,fun _ _ _=>rfl,fun k=> .same _⟩
theorem forgetHd_out (n:Nat) (sh:Hd):(forgetHd n sh).out=sh.out:=by
 unfold forgetHd;split
 ·split <;> rfl
 ·rfl
theorem forgetHd_ty (n:Nat) (sh:Hd):(forgetHd n sh).ty=sh.ty:=by
 unfold forgetHd;split
 ·split <;> rfl
 ·rfl
theorem forgetHd_link {n:Nat} {sh:Hd} {i j k m:Nat} (h:(forgetHd n sh).link=some (i,j,k,m)):sh.link=some (i,j,k,m)∧k<n:=by
 unfold forgetHd at h;split at h
 ·rename_i hs
  split at h
  ·rename_i hk;rw [hs] at h;cases h;exact ⟨hs,hk⟩
  ·cases h
 ·rename_i hs;rw [hs] at h;cases h
theorem valOk_forget (n:Nat) {x:AV} (h:valOk x=true):valOk (Am.forget n x)=true:=by
 unfold Am.forget
 split
 ·exact h
 ·rfl
theorem Mem.hand (hm:Mem g bs w) (n:Nat):Mem (g.hand bs n) ((bs.take n).map (forgetBox n)) w∧Fr g w (g.hand bs n) w:=by
 have hle: ∀{x:AV} {v:Value},Rd g w x v→x.plain=true→Rd (g.hand bs n) w x v:=fun h hp=>h.of_plain (g':=g.hand bs n) (fun _ _ hs=>Or.inl hs) (fun _ _ _=>rfl) hp
 refine ⟨⟨fun k hk=> ?_,fun k ty cs hk=> ?_,fun k sh sz es hk=> ?_,fun k st hk=> ?_,fun k es clock hk=> ?_,fun k hk=> ?_,fun k o hk=> ?_,fun k l b hk hl=> ?_,fun b o hb=> ?_,fun p hp=>⟨(hm.kn p hp).1,fun k hk=>(hm.kn p hp).2 k (hand_blk hk).2⟩⟩,⟨Nat.le_refl _,fun b hb hne=>⟨rfl,fun k hk=>hne k (hand_blk hk).2,fun o ho=> ?_⟩,rfl,rfl,rfl⟩⟩
 ·rw [at_take] at hk
  simp only [Gh.hand]
  split
  ·rename_i hkn
   rw [if_pos hkn] at hk
   refine hm.no k ?_
   cases hb:Box.at bs k with
   | dead=>rfl
   | var ty cs=>rw [hb] at hk;cases hk
   | sl sh sz es=>rw [hb] at hk;cases hk
   | loop st=>rw [hb] at hk;cases hk
   | mp es clock=>rw [hb] at hk;cases hk
   | gone=>rw [hb] at hk;cases hk
   | iter o=>rw [hb] at hk;cases hk
  ·rfl
 ·rw [at_take] at hk
  split at hk
  ·rename_i hkn
   cases hb:Box.at bs k with
   | dead=>rw [hb] at hk;cases hk
   | sl sh sz es=>rw [hb] at hk;cases hk
   | loop st=>rw [hb] at hk;cases hk
   | mp es clock=>rw [hb] at hk;cases hk
   | gone=>rw [hb] at hk;cases hk
   | iter o=>rw [hb] at hk;cases hk
   | var ty' cs'=>
    rw [hb] at hk
    simp only [forgetBox,Box.var.injEq] at hk
    obtain ⟨rfl,rfl⟩:=hk
    obtain ⟨b,hge,c,h1,h2,h4⟩:=hm.var k ty' cs' hb
    refine ⟨b,by simp only [Gh.hand,hkn,if_true];exact hge,c,h1,by rw [List.length_map];exact h2,fun j x v hx hv=> ?_⟩
    rw [List.getElem?_map] at hx
    cases hj:cs'[j]? with
    | none=>rw [hj] at hx;cases hx
    | some y=>
     rw [hj] at hx;cases hx
     exact (h4 j y v hj hv).hand_forget n
  ·cases hk
 ·rw [at_take] at hk
  split at hk
  ·rename_i hkn
   cases hb:Box.at bs k with
   | dead=>rw [hb] at hk;cases hk
   | var ty cs=>rw [hb] at hk;cases hk
   | loop st=>rw [hb] at hk;cases hk
   | mp es clock=>rw [hb] at hk;cases hk
   | gone=>rw [hb] at hk;cases hk
   | iter o=>rw [hb] at hk;cases hk
   | sl sh' sz' es'=>
    rw [hb] at hk
    simp only [forgetBox,Box.sl.injEq] at hk
    obtain ⟨rfl,rfl,rfl⟩:=hk
    obtain ⟨loc,hge,hr⟩:=hm.sl k sh' sz' es' hb
    refine ⟨loc,by simp only [Gh.hand,hkn,if_true];exact hge,hr.1,?_⟩
    cases loc with
    | none=>exact hr.2
    | some p=>
     obtain ⟨b,cap⟩:=p
     obtain ⟨c,ty,fz,h1,h2,h3,h4,h5,h6,h7⟩:=hr.2
     refine ⟨c,ty,fz,h1,h2,h3,by rw [forgetHd_ty,forgetHd_out];exact h4,fun i j e x v he hx hv=> ?_,fun hs o ho=> .inl (h6 (by rwa [forgetHd_out] at hs) o ho),fun i j k' m hl v hv hi=> ?_⟩
     rotate_left
     ·obtain ⟨l1,l2⟩:=forgetHd_link hl
      exact (h7 i j k' m l1 v hv hi).hand_under n (by simpa [AV.under] using l2)
     have:=h5 i j e x v he hx hv
     refine ⟨hle this.1 ?_,this.2⟩
     have hp:=(hr.1 i e he).1
     cases e <;> simp only [AV.cells] at hx <;> first
      | (simp only [AV.plain] at hp;exact plainAll_get hp hx)
      | (cases j with
         | zero => simp at hx; rw [← hx]; exact hp
         | succ j => simp at hx)
  ·cases hk
 ·rw [at_take] at hk
  split at hk
  ·rename_i hkn
   cases hb:Box.at bs k with
   | dead=>rw [hb] at hk;cases hk
   | var ty cs=>rw [hb] at hk;cases hk
   | sl sh sz es=>rw [hb] at hk;cases hk
   | mp es clock=>rw [hb] at hk;cases hk
   | gone=>rw [hb] at hk;cases hk
   | iter o=>rw [hb] at hk;cases hk
   | loop st'=>
    rw [hb] at hk
    simp only [forgetBox,Box.loop.injEq] at hk
    subst hk
    obtain ⟨b,r,hge,hr⟩:=hm.loop k st' hb
    exact ⟨b,r,by simp only [Gh.hand,hkn,if_true];exact hge,hr⟩
  ·cases hk
 ·rw [at_take] at hk
  split at hk
  ·rename_i hkn
   cases hb:Box.at bs k with
   | dead=>rw [hb] at hk;cases hk
   | var ty cs=>rw [hb] at hk;cases hk
   | sl sh sz es=>rw [hb] at hk;cases hk
   | loop st=>rw [hb] at hk;cases hk
   | gone=>rw [hb] at hk;cases hk
   | iter o=>rw [hb] at hk;cases hk
   | mp es' clock'=>
    rw [hb] at hk
    simp only [forgetBox,Box.mp.injEq] at hk
    obtain ⟨rfl,rfl⟩:=hk
    obtain ⟨b,hge,ents,h1,h2,h3⟩:=hm.mp k es' clock' hb
    refine ⟨b,by simp only [Gh.hand,hkn,if_true];exact hge,ents,h1,by rw [List.length_map];exact h2,fun i e m he hm'=> ?_⟩
    rw [List.getElem?_map] at he
    cases hj:es'[i]? with
    | none=>rw [hj] at he;cases he
    | some y=>
     rw [hj] at he;cases he
     obtain ⟨⟨k1,k2⟩,⟨k3,k4⟩,k5⟩:=h3 i y m hj hm'
     exact ⟨⟨k1,hle k2 (key_plain k1)⟩,⟨valOk_forget n k3,k4.hand_forget n⟩,k5⟩
  ·cases hk
 ·rw [at_take] at hk
  split at hk
  ·rename_i hkn
   cases hb:Box.at bs k with
   | gone=>obtain ⟨m,sz,h1⟩:=hm.gone k hb;exact ⟨m,sz,by simp only [Gh.hand,hkn,if_true];exact h1⟩
   | _=>rw [hb] at hk;cases hk
  ·cases hk
 ·rw [at_take] at hk
  split at hk
  ·rename_i hkn
   cases hb:Box.at bs k with
   | iter o'=>
    rw [hb] at hk;cases hk
    obtain ⟨b,h1,h2⟩:=hm.it k _ hb;exact ⟨b,by simp only [Gh.hand,hkn,if_true];exact h1,h2.mono (fun j c hj hg=>by simp only [Gh.hand];rw [if_pos (by omega)];exact hg) rfl⟩
   | _=>rw [hb] at hk;cases hk
  ·cases hk
 ·exact hm.inj k l b (hand_blk hk).2 (hand_blk hl).2
 ·rcases hb with hb | ⟨k,sh,sz,es,hk,hbx,hblk,ho⟩
  ·obtain ⟨h1,h2⟩:=hm.stab b o hb
   refine ⟨h1,fun k hk=> ?_⟩
   obtain ⟨hkn,hk'⟩:=hand_blk hk
   obtain ⟨ty,sz,es,h3,h4⟩:=h2 k hk'
   exact ⟨ty,sz,es,by rw [at_take,if_pos hkn,h3];rfl,h4⟩
  ·refine ⟨hm.blk_lt hblk,fun l hl=> ?_⟩
   obtain ⟨hln,hl'⟩:=hand_blk hl
   have:=hm.inj l k b hl' hblk
   omega
 ·rcases ho with ho | ⟨k,sh,sz,es,hk,hbx,hblk,_⟩
  ·exact ho
  ·exact absurd hblk (hne k)
theorem Mem.hand_all (hm:Mem g bs w) {n:Nat} (hn:bs.length≤n):Mem (g.hand bs n) bs w∧ ∀k,(g.hand bs n).e k=g.e k:=by
 have hS: ∀b o,(g.hand bs n).S b o→g.S b o:=fun b o hs=>by
  rcases hs with hs | ⟨k,sh,sz,es,hk,hbx,_⟩
  ·exact hs
  ·have:=at_lt (bs:=bs) (k:=k) (by rw [hbx];simp)
   omega
 have he: ∀k,(g.hand bs n).e k=g.e k:=fun k=>by
  simp only [Gh.hand]
  split
  ·rfl
  ·refine (hm.no k ?_).symm
   simp [Box.at,List.getD_eq_getElem?_getD,List.getElem?_eq_none (by omega:bs.length≤k)]
 have hle:Le g w (g.hand bs n) w:=⟨fun _ _ hs=>Or.inl hs,fun _ _ _=>rfl,fun k=>by rw [he];exact .same _⟩
 refine ⟨⟨fun k hk=>by rw [he];exact hm.no k hk,fun k ty cs hk=> ?_,fun k sh sz es hk=> ?_,fun k st hk=>by rw [he];exact hm.loop k st hk,fun k es clock hk=> ?_,fun k hk=>by rw [he];exact hm.gone k hk,fun k o hk=>by rw [he];obtain ⟨b,h1,h2⟩:=hm.it k o hk;exact ⟨b,h1,h2.mono (fun j c _ hj=>by rw [he];exact hj) rfl⟩,fun k l b hk hl=> ?_,fun b o hb=> ?_,fun p hp=>⟨(hm.kn p hp).1,fun k hk=>by rw [he] at hk;exact (hm.kn p hp).2 k hk⟩⟩,he⟩
 ·obtain ⟨b,h1,h2⟩:=hm.var k ty cs hk
  exact ⟨b,by rw [he];exact h1,h2.mono hle rfl⟩
 ·obtain ⟨loc,h1,h2⟩:=hm.sl k sh sz es hk
  exact ⟨loc,by rw [he];exact h1,h2.mono hle (fun _ _=>rfl)⟩
 ·obtain ⟨b,h1,h2⟩:=hm.mp k es clock hk
  exact ⟨b,by rw [he];exact h1,h2.mono hle rfl⟩
 ·rw [he] at hk hl;exact hm.inj k l b hk hl
 ·obtain ⟨h1,h2⟩:=hm.stab b o (hS b o hb)
  exact ⟨h1,fun k hk=>by rw [he] at hk;exact h2 k hk⟩
theorem osl_lst (hm:Mem g bs w) {k m n:Nat} {v:Value} (h:Rd g w (.osl k m) v) (hk:n≤k) {sh:Hd} {sz:Nat} {es:List AV} (hb:Box.at bs k= .sl sh sz es) (hn:m=es.length):Rd (g.hand bs n) w (.lst none sz es) v:=by
 obtain ⟨a,cap,rfl,hel,loc,hge,hr,hl⟩:=h.osl_at hm hb hn
 have hel':ElemsAt (g.hand bs n) w sz es a cap:=⟨fun hne=>by
  obtain ⟨b,off,ha,hcs⟩:=hel.at_ hne
  refine ⟨b,off,ha,fun i e he j x hx=> ?_⟩
  obtain ⟨v,hv,rv,ov⟩:=hcs i e he j x hx
  refine ⟨v,hv,rv.of_plain (g':=g.hand bs n) (fun _ _ hs=>Or.inl hs) (fun _ _ _=>rfl) ?_,ov⟩
  have hp:=(hel.ok i e he).1
  cases e <;> simp only [AV.cells] at hx <;> first
   | (simp only [AV.plain] at hp;exact plainAll_get hp hx)
   | (cases j with
      | zero => simp at hx; rw [← hx]; exact hp
      | succ j => simp at hx), hel.ok, hel.nil, hel.cap⟩
 have:=sub_lst (h:=es.length) (l:=0) none hel' (fun x h=>by cases h) (fun b off hab i j e x he hx=>by
  have hne:es≠ []:=by intro h0;rw [h0] at he;cases he
  rcases hl with ⟨b',rfl,rfl⟩ | ⟨_,h0,_⟩
  ·simp only [Option.some.injEq,Addr.mk.injEq,and_true] at hab
   obtain ⟨rfl,rfl⟩:=hab
   refine .inr ⟨k,sh,sz,es,hk,hb,by rw [hge];rfl,?_⟩
   have hlt:=getElem?_lt he
   have hlt':=getElem?_lt hx
   rw [(hel.ok _ _ he).2] at hlt'
   have:(i+1)*sz≤es.length*sz:=Nat.mul_le_mul_right _ hlt
   rw [Nat.add_mul] at this
   omega
  ·exact absurd h0 hne) (Nat.zero_le _) (Nat.le_refl _)
 simp only [List.drop_zero,List.take_length,Nat.zero_mul,Nat.sub_zero] at this
 have ha:(if cap=0 then a else a.map (·.add 0))=a:=by
  split
  ·rfl
  ·cases a with
   | none=>rfl
   | some a=>simp [Addr.add]
 rw [ha] at this
 exact this
theorem osv_lst (hm:Mem g bs w) {k m n lo hi:Nat} {v:Value} (h:Rd g w (.osv k m lo hi) v) (hk:n≤k) {sh:Hd} {sz:Nat} {es:List AV} (hb:Box.at bs k= .sl sh sz es) (hn:m=es.length) (hlh:lo≤hi) (hh:hi≤m):Rd (g.hand bs n) w (.lst none sz ((es.take hi).drop lo)) v:=by
 obtain ⟨b,cap,a,rfl,ha,hge,hr,hel⟩:=h.osv_at hm hb hn
 have hel':ElemsAt (g.hand bs n) w sz es (some ⟨b,0,none⟩) cap:=⟨fun hne=>by
  obtain ⟨b,off,ha,hcs⟩:=hel.at_ hne
  refine ⟨b,off,ha,fun i e he j x hx=> ?_⟩
  obtain ⟨v,hv,rv,ov⟩:=hcs i e he j x hx
  refine ⟨v,hv,rv.of_plain (g':=g.hand bs n) (fun _ _ hs=>Or.inl hs) (fun _ _ _=>rfl) ?_,ov⟩
  have hp:=(hel.ok i e he).1
  cases e <;> simp only [AV.cells] at hx <;> first
   | (simp only [AV.plain] at hp;exact plainAll_get hp hx)
   | (cases j with
      | zero => simp at hx; rw [← hx]; exact hp
      | succ j => simp at hx), hel.ok, hel.nil, hel.cap⟩
 exact part_lst hel' (fun o ho=> .inr ⟨k,sh,sz,es,hk,hb,by rw [hge];rfl,ho⟩) ha hlh (by omega)
mutual
theorem hand_rd (hm:Mem g bs w) (n:Nat): ∀(d d':AV) (v:Value),Rd g w d v→d.hand n bs=some d'→d'.under n=true→Rd (g.hand bs n) w d' v
 | .osl k m,d',v,h,hh,hu=>by
  simp only [AV.hand] at hh
  split at hh
  ·cases hh;exact h.hand_under n hu
  ·rename_i hk
   split at hh
   ·rename_i sh sz es hb
    split at hh
    ·rename_i hm'
     cases hh
     exact osl_lst hm h (by omega) hb hm'
    ·cases hh
   ·cases hh
 | .osv k m lo hi,d',v,h,hh,hu=>by
  simp only [AV.hand] at hh
  split at hh
  ·cases hh;exact h.hand_under n hu
  ·rename_i hk
   split at hh
   ·rename_i sh sz es hb
    split at hh
    ·rename_i hm'
     cases hh
     exact osv_lst hm h (by omega) hb hm'.1 hm'.2.1 hm'.2.2
    ·cases hh
   ·cases hh
 | .agg cs,d',v,h,hh,hu=>by
  simp only [AV.hand] at hh
  cases hc:handAll n bs cs with
  | none=>rw [hc] at hh;cases hh
  | some cs'=>
   rw [hc] at hh;cases hh
   simp only [AV.under] at hu
   obtain ⟨vs,rfl,hn,h'⟩:=h.agg_inv
   obtain ⟨h1,h2⟩:=handAll_rd hm n cs cs' vs.toList (by simpa using hn.symm) (fun i c v hc hv=>h' i c v hc (by simpa using hv)) hc hu
   exact .agg _ _ (by rw [←h1,hn]) (fun i c v hc hv=>h2 i c v hc (by simpa using hv))
 | .tup cs,d',v,h,hh,hu=>by
  simp only [AV.hand] at hh
  cases hc:handAll n bs cs with
  | none=>rw [hc] at hh;cases hh
  | some cs'=>
   rw [hc] at hh;cases hh
   simp only [AV.under] at hu
   obtain ⟨vs,rfl,hn,h'⟩:=h.tup_inv
   obtain ⟨h1,h2⟩:=handAll_rd hm n cs cs' vs.toList (by simpa using hn.symm) (fun i c v hc hv=>h' i c v hc (by simpa using hv)) hc hu
   exact .tup _ _ (by rw [←h1,hn]) (fun i c v hc hv=>h2 i c v hc (by simpa using hv))
 | .any,d',v,h,hh,hu=>by cases hh;exact .any v
 | .unk,d',v,h,hh,hu=>by cases hh;exact h.hand_under n hu
 | .int k m,d',v,h,hh,hu=>by cases hh;exact h.hand_under n hu
 | .bool b,d',v,h,hh,hu=>by cases hh;exact h.hand_under n hu
 | .str s,d',v,h,hh,hu=>by cases hh;exact h.hand_under n hu
 | .nilp,d',v,h,hh,hu=>by cases hh;exact h.hand_under n hu
 | .ptr k off,d',v,h,hh,hu=>by cases hh;exact h.hand_under n hu
 | .sptr k m i off,d',v,h,hh,hu=>by cases hh;exact h.hand_under n hu
 | .eptr cs,d',v,h,hh,hu=>by cases hh;exact h.hand_under n hu
 | .lst nl sz es,d',v,h,hh,hu=>by cases hh;exact h.hand_under n hu
 | .cap0 nl,d',v,h,hh,hu=>by
  cases hh
  cases h with
  | cap0 _ a hnl=>exact .lst nl 0 [] a 0 0 0 (fun _ _=> .nilFunc) hnl (fun _=>⟨rfl,rfl⟩) (Nat.le_refl _) (fun h=>absurd rfl h) (fun i e h=>by cases h) (fun i j e x h=>by cases h) (fun i j e x h=>by cases h)
 | .fn f a b,d',v,h,hh,hu=>by cases hh;exact h.hand_under n hu
 | .nilf,d',v,h,hh,hu=>by cases hh;exact h.hand_under n hu
 | .ifc b,d',v,h,hh,hu=>by cases hh;exact h.hand_under n hu
 | .ifi _ _ _,d',v,h,hh,hu=>by cases hh;exact h.hand_under n hu
 | .yld k s env,d',v,h,hh,hu=>by cases hh;exact h.hand_under n hu
 | .mapv k,d',v,h,hh,hu=>by cases hh;exact h.hand_under n hu
 | .itv k,d',v,h,hh,hu=>by cases hh;exact h.hand_under n hu
 | .nilm,d',v,h,hh,hu=>by cases hh;exact h.hand_under n hu
theorem handAll_rd (hm:Mem g bs w) (n:Nat): ∀(cs cs':List AV) (vs:List Value),cs.length=vs.length→(∀(i:Nat) (c:AV) (v:Value),cs[i]?=some c→vs[i]?=some v→Rd g w c v)→handAll n bs cs=some cs'→underAll n cs'=true→
  cs.length=cs'.length∧ ∀(i:Nat) (c:AV) (v:Value),cs'[i]?=some c→vs[i]?=some v→Rd (g.hand bs n) w c v
 | [],cs',vs,hn,h,hh,hu=>by cases hh;exact ⟨rfl,fun i c v hc=>by simp at hc⟩
 | d::r,cs',vs,hn,h,hh,hu=>by
  simp only [handAll] at hh
  split at hh
  ·rename_i a l ha hl
   cases hh
   simp only [underAll,Bool.and_eq_true] at hu
   cases vs with
   | nil=>simp at hn
   | cons v vs=>
    have h0:=hand_rd hm n d a v (h 0 d v rfl rfl) ha hu.1
    obtain ⟨h1,h2⟩:=handAll_rd hm n r l vs (by simpa using hn) (fun i c v hc hv=>h (i+1) c v (by simpa using hc) (by simpa using hv)) hl hu.2
    refine ⟨by simp [h1],fun i c v hc hv=> ?_⟩
    cases i with
    | zero=>simp at hc hv;subst hc;subst hv;exact h0
    | succ i=>simp at hc hv;exact h2 i c v hc hv
  ·cases hh
end
end
end Go.Am
