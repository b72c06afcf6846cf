/-
 The reference's Check, part by part: Has, letters, before, languages. The reference's labels of a catalog, and facts of a sheet. The reference's facts of a sheet. The reference's way among sheets: Index, Chain, in. The reference's choices: prefer, fact, choose, name, cite. The reference's check of sheets, and Check. The reference's pieces, numbers and tags. The reference's numbers of sections, and what it answers for catalogs that are right: Choose, Name, Cite, Number. What the reference answers: Number, Choose, Name, Cite. The reference's sections and Compile. The reference's Compile.
-/
import Derived.Test.YtfnkchadeaedlaaGreatDoorAdM
import Derived.Test.YtfnkchadeaedlaaGreatDoorCatM
set_option linter.all false
namespace Go.Proofs.YtfnkchadeaedlaaGreatDoor
open Go.Am
set_option maxRecDepth 10000
set_option maxHeartbeats 4000000
theorem D4 (lev:Int) (h1:1≤lev) (h4:lev≤4):aq cfg 75 [.int .i64 lev] []=some (.str (fk lev), []):=by
 refine ab TW R0 ?_;have:lev=1∨lev=2∨lev=3∨lev=4:=by omega
 rcases this with rfl | rfl | rfl | rfl <;> simp (maxSteps:=9^9) (disch:=omega) [-List.map_replicate,-List.map_set,-List.getD_eq_getElem?_getD,-getElem?_pos,-getElem?_neg,om,R1,fk]
theorem Fq (s:ag) (hs:s.length<1000000):aq cfg 74 [.str s] []=some (.int .i64 (aN s), []):=by
 refine ab TX R2 ?_;simp (maxSteps:=9^9) (disch:=omega) [-List.map_replicate,-List.map_set,-List.getD_eq_getElem?_getD,-getElem?_pos,-getElem?_neg,om,R3];refine Wp.aX (fun (a:Nat×Nat)=>s.length-a.1) (fun a=> [some (.str s),none,some (.int .i64 a.2),some (.int .i64 a.1),none,none]) (fun _=> []) (fun a=>aN s=a.2+aN (s.drop a.1)∧a.1≤s.length∧a.2≤a.1) ?_ (0,0) ⟨by simp,by simp,by simp⟩ (by simp) rfl;rintro ⟨i,n⟩ ⟨hi,hil,hn⟩;simp only at hi hil hn⊢;rw [hi];clear hi;by_cases h1:i<s.length
 ·have hg:s[i]?=some (s.getD i 0):=by simp [List.getD_eq_getElem?_getD,h1]
  have hd:=yT s h1;by_cases hc:s.getD i 0=46
  ·have hq:aN (s.drop i)=1+aN (s.drop (i+1)):=by rw [hd,hc];unfold aN;rw [List.count_cons_self];omega
   rw [hc] at hg;simp (maxSteps:=9^9) (disch:=omega) [-List.map_replicate,-List.map_set,-List.getD_eq_getElem?_getD,-getElem?_pos,-getElem?_neg,om,h1,hg,ah];exact ⟨i+1,n+1,⟨by omega,by omega,by omega⟩,by omega,by simp,by simp⟩
  ·have hc2: ¬ (((s.getD i 0).toNat:Int)=46):=fun h=>hc (UInt8.toNat_inj.mp (by show _=46;omega));have hq:aN (s.drop i)=aN (s.drop (i+1)):=by rw [hd];unfold aN;rw [List.count_cons_of_ne (by simpa using hc)]
   generalize s.getD i 0=c at*
   have hc3:((c.toNat:Int)==46)=false:=by simpa using hc2
   simp (maxSteps:=9^9) (disch:=omega) [-List.map_replicate,-List.map_set,-List.getD_eq_getElem?_getD,-getElem?_pos,-getElem?_neg,om,h1,hg,ah,hc2,hc3];exact ⟨i+1,n,⟨by omega,by omega,by omega⟩,by omega,by simp,by simp⟩
 ·rw [List.drop_eq_nil_of_le (by omega)];simp (maxSteps:=9^9) (disch:=omega) [-List.map_replicate,-List.map_set,-List.getD_eq_getElem?_getD,-getElem?_pos,-getElem?_neg,om,h1,aN]
theorem Fp (s:ag) (hs:s.length<1000000):aq cfg 49 [.str s] []=some (oT (an s), []):=by
 refine ab TY R4 ?_;unfold an;by_cases h3:s.length<3
 ·rw [if_pos (.inl h3)];simp (maxSteps:=9^9) (disch:=omega) [-List.map_replicate,-List.map_set,-List.getD_eq_getElem?_getD,-getElem?_pos,-getElem?_neg,om,Fs,h3,oT]
 have hg: ∀i,i<s.length→s[i]?=some (s.getD i 0):=fun i h1=>by simp [List.getD_eq_getElem?_getD,h1]
 have g0:=hg 0 (by omega);have g1:=hg 1 (by omega);by_cases c0:s.getD 0 0=91
 case neg=>
  rw [if_pos (.inr (.inl c0))];have c0': ¬ (((s.getD 0 0).toNat:Int)=91):=fun h=>c0 (UInt8.toNat_inj.mp (by show _=91;omega));generalize s.getD 0 0=x0 at*
  have c0b:((x0.toNat:Int) !=91)=true:=by simpa using c0'
  simp (maxSteps:=9^9) (disch:=omega) [-List.map_replicate,-List.map_set,-List.getD_eq_getElem?_getD,-getElem?_pos,-getElem?_neg,om,Fs,h3,oT,g0,ah,c0',c0b]
 by_cases c1:49≤(s.getD 1 0).toNat∧(s.getD 1 0).toNat≤57
 case neg=>
  rw [if_pos (.inr (.inr c1))];have c1':((s.getD 1 0).toNat:Int)<49∨57<((s.getD 1 0).toNat:Int):=by omega
  rw [c0] at g0;generalize s.getD 1 0=x1 at*
  by_cases q:x1.toNat<49
  ·simp (maxSteps:=9^9) (disch:=omega) [-List.map_replicate,-List.map_set,-List.getD_eq_getElem?_getD,-getElem?_pos,-getElem?_neg,om,Fs,h3,oT,g0,g1,ah,q]
  ·have q2:57<x1.toNat:=by omega
   simp (maxSteps:=9^9) (disch:=omega) [-List.map_replicate,-List.map_set,-List.getD_eq_getElem?_getD,-getElem?_pos,-getElem?_neg,om,Fs,h3,oT,g0,g1,ah,q,q2]
 rw [if_neg (by rintro (h | h | h);exact h3 h;exact h c0;exact h c1)];rw [c0] at g0;obtain ⟨c2,c3⟩:=c1;generalize hP:qe (s.drop 1) 0 1=P at*
 have g1':=g1;generalize s.getD 1 0=x1 at g1 c2 c3;simp (maxSteps:=9^9) (disch:=omega) [-List.map_replicate,-List.map_set,-List.getD_eq_getElem?_getD,-getElem?_pos,-getElem?_neg,om,Fs,h3,g0,g1,ah,c2,c3];clear g1' c2 c3 c0;refine Wp.aX (fun (a:Nat×Nat)=>s.length-a.2) (fun a=> [some (.str s),none,none,some (.int .i64 a.1),some (.int .i64 a.2),none,none,none,none]) (fun _=> []) (fun a=>P=qe (s.drop a.2) a.1 a.2∧a.2≤s.length∧a.1≤1073741824) ?_ (0,1) ⟨hP.symm,by simp;omega,by simp⟩ (by simp) rfl;rintro ⟨n,i⟩ ⟨hi,hil,hn⟩;simp only at hi hil hn⊢;rw [hi];clear hi hP;by_cases h1:i<s.length
 ·have hgi:=hg i h1;have hd:=yT s h1;rw [hd];simp only [qe];generalize s.getD i 0=c at*
  clear hg;by_cases q1:48≤c.toNat
  ·by_cases q2:c.toNat≤57
   ·rw [if_pos ⟨q1,q2⟩];have w1:IntKind.u8.wrap ((c.toNat:Int)-48)=(c.toNat:Int)-48:=by show ((c.toNat:Int)-48)%256=_;omega
    have w2:IntKind.i64.wrap ((c.toNat:Int)-48)=(c.toNat:Int)-48:=wrap_i64 (by omega) (by omega);have w3:IntKind.i64.wrap (10*(n:Int))=10*(n:Int):=wrap_i64 (by omega) (by omega);have w4:IntKind.i64.wrap (10*(n:Int)+((c.toNat:Int)-48))=10*(n:Int)+((c.toNat:Int)-48):=wrap_i64 (by omega) (by omega);by_cases q3:1073741824<10*n+(c.toNat-48)
    ·rw [if_pos q3];have q3':(1073741824:Int)<10*(n:Int)+((c.toNat:Int)-48):=by omega
     simp (maxSteps:=9^9) (disch:=omega) [-List.map_replicate,-List.map_set,-List.getD_eq_getElem?_getD,-getElem?_pos,-getElem?_neg,om,h1,hgi,ah,q1,q2,w1,w2,w3,w4,q3',oT]
    ·rw [if_neg q3];have q3': ¬ (1073741824:Int)<10*(n:Int)+((c.toNat:Int)-48):=by omega
     simp (maxSteps:=9^9) (disch:=omega) [-List.map_replicate,-List.map_set,-List.getD_eq_getElem?_getD,-getElem?_pos,-getElem?_neg,om,h1,hgi,ah,q1,q2,w1,w2,w3,w4,q3'];exact ⟨10*n+(c.toNat-48),i+1,⟨rfl,by omega,by omega⟩,by omega,by omega,by omega⟩
   ·rw [if_neg (fun h=>q2 h.2)];by_cases q4:c=93
    ·subst q4;simp (maxSteps:=9^9) (disch:=omega) [-List.map_replicate,-List.map_set,-List.getD_eq_getElem?_getD,-getElem?_pos,-getElem?_neg,om,h1,hgi,ah,q1,q2,oT]
    ·have q5: ¬ ((c.toNat:Int)=93):=fun h=>q4 (UInt8.toNat_inj.mp (by show _=93;omega));have q6:((c.toNat:Int) !=93)=true:=by simpa using q5
     rw [if_neg q4];simp (maxSteps:=9^9) (disch:=omega) [-List.map_replicate,-List.map_set,-List.getD_eq_getElem?_getD,-getElem?_pos,-getElem?_neg,om,h1,hgi,ah,q1,q2,q5,q6,oT]
  ·rw [if_neg (fun h=>q1 h.1)];have q5: ¬ ((c.toNat:Int)=93):=by omega
   have q6:((c.toNat:Int) !=93)=true:=by simpa using q5
   rw [if_neg (fun h=>by subst h;exact q1 (by decide))];simp (maxSteps:=9^9) (disch:=omega) [-List.map_replicate,-List.map_set,-List.getD_eq_getElem?_getD,-getElem?_pos,-getElem?_neg,om,h1,hgi,ah,q1,q5,q6,oT]
 ·obtain rfl:i=s.length:=by omega
  rw [List.drop_eq_nil_of_le (by omega)];simp (maxSteps:=9^9) (disch:=omega) [-List.map_replicate,-List.map_set,-List.getD_eq_getElem?_getD,-getElem?_pos,-getElem?_neg,om,qe,oT]
set_option maxHeartbeats 8000000
end Go.Proofs.YtfnkchadeaedlaaGreatDoor
