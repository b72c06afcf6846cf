/-
 The law DependSections.
-/
import Derived.Test.YtfnkchadeaedlaaGreatDoorLsM
import Derived.Test.YtfnkchadeaedlaaGreatDoorRdM
set_option linter.all false
namespace Go.Proofs.YtfnkchadeaedlaaGreatDoor
open Go.Am
set_option maxRecDepth 10000
set_option maxHeartbeats 8000000
def Hw (o:Option qn):AV:=match o with | some s=>cD s | none=>jT
theorem Hx (q:Int×Option qn):cZ q= .aI [Hw q.2,.int .i64 q.1]:=rfl
theorem vq {l:List (Cell×ag)} {d:Int}: ∀{fs:List (Nat×ag)} {ns:List Nd},dV l d fs=some ns→ns.length=fs.length
 | [],ns,h=>by cases h;rfl
 | f::r,ns,h=>by
  unfold dV at h;split at h
  ·rename_i lab t ms h1 h2 h3;injection h with h;subst h;have:=vq h3;simp [this]
  ·cases h
theorem Hy {unit:Int} {l:List (Cell×ag)} {N:Nat} (hN: ∀p∈splitB 10 ((au l (2,unit)).getD []).dropLast,p.length≤N) {s:qn} (h:(iU al unit l).2=some s):s.nodes.length<1000000:=by
 unfold iU at h;split at h
 ·unfold I7 at h;split at h
  ·cases h
  ·split at h
   ·cases h
   ·rename_i x hx;obtain ⟨_,_,k,_⟩:=oS hx hN;split at h
    ·cases h
    ·rename_i ns hns;injection h with h;subst h;have:=vq hns;simp only [List.length_cons,List.length_append];unfold mC;split <;> simp <;> omega
 ·cases h
theorem vp (o:Option qn) (h: ∀s,o=some s→s.nodes.length<1000000):aq cfg 20 [Hw o,Hw o] []=some (.bool true, []):=by
 cases o with
 | none=>have:=vg ⟨0, [], []⟩ ⟨0, [], []⟩ (some true) (some true) 0 0 (fun h=>absurd rfl h) (fun h=>absurd rfl h) (by simp) (by simp);rw [decide_eq_true rfl] at this;exact this
 | some s=>have:=vg s s none none 3 3 (fun _=>rfl) (fun _=>rfl) (h s rfl) (h s rfl);rw [decide_eq_true rfl] at this;exact this
theorem CY (o:Option qn): ∃u n nl z ns,Hw o= .agg [.int .i64 u,.str n,.ak nl z (List.map ff ns)]:=by
 cases o with
 | none=>exact ⟨0, [],some true,0, [],rfl⟩
 | some s=>exact ⟨s.unit,s.num,none,3,s.nodes,rfl⟩
theorem fU (l:List Nd):aj (l.map ff)=true:=ez (fun _=>rfl) l
theorem Jt {l:List (Cell×ag)} {N:Nat} (h: ∀r∈l,r.2.length≤N) (x:Cell):((au l x).getD []).length≤N:=by
 unfold au;cases hf:l.find? (fun y=>decide (y.1=x)) with
 | none=>simp
 | some y=>exact h y (List.mem_of_find?_eq_some hf)
theorem yC (unit:Int) (nl:Bool) (z:Nat) (l:List (Cell×ag)) (hz:l≠ []→z=3) (hn:nl=true→l= []) (hl:l.length≤maxLen):aq cfg 8 [.int .i64 unit,.ak (some nl) z (aC l)] []=some (.bool true, []):=by
 refine ab UY TN ?_;have a:=vo;obtain ⟨b,w1,hb⟩:=D2 (some nl) z l hz hl;have p1:=bM l;cases b with
 | false=>
  clear hb hl;generalize aC l=R at*
  simp (maxSteps:=9^9) (disch:=omega) [-List.map_replicate,-List.map_set,-List.getD_eq_getElem?_getD,-getElem?_pos,-getElem?_neg,om,TO,a,w1,p1]
 | true=>
  obtain ⟨h30,h1000⟩:=hb rfl;obtain ⟨n',z',w2,f2⟩:=Hp nl z l hz hn (by omega);have hlk:=Jt h1000;have hsp: ∀(v:ag) (p:ag),v.length≤1000→p∈splitB 10 v→p.length≤10000:=fun v p h hp=>by have:=(gb v p hp).2;omega
  have hsd: ∀(v:ag) (p:ag),v.length≤1000→p∈splitB 10 v.dropLast→p.length≤10000:=fun v p h hp=>by have:=(gb v.dropLast p hp).2;have:=List.length_dropLast (xs:=v);omega
  have w3:aq cfg 19 [.int .i64 unit,.ak n' z' (aC l)] []=some (cZ (iU al unit l), []):=by
   by_cases he:l= []
   ·subst he;exact Fi unit n' z'
   ·obtain ⟨rfl,rfl⟩:=f2 he;exact u6 unit l he (by omega) (by have:=hlk (1,unit);omega) (by have:=hlk (2,unit);omega) (fun p hp=>hsd _ p (hlk _) hp) (fun k u _=>hlk (k,u))
  have w4:=Hz unit (some nl) z l hz (by omega) (by have:=hlk (1,unit);omega) (by have:=hlk (2,unit);omega) (fun p hp=>hsp _ p (hlk _) hp) (fun k u _=>hlk (k,u)) (fun p hp=>hsd _ p (hlk _) hp);have w5:=vp (iU al unit l).2 (fun s hs=>Hy (fun p hp=>hsd _ p (hlk _) hp) hs);rw [Hx] at w3 w4;obtain ⟨u,n,nl2,z2,ns,hv⟩:=CY (iU al unit l).2;have p2:=fU ns;rw [hv] at w3 w4 w5;clear hb hl hlk hsp hsd f2 h1000 hv;generalize (iU al unit l).1=q at*
  generalize aC l=R at*
  generalize ns.map ff=NS at*
  simp (maxSteps:=9^9) (disch:=omega) [-List.map_replicate,-List.map_set,-List.getD_eq_getElem?_getD,-getElem?_pos,-getElem?_neg,om,TO,a,w1,w2,w3,w4,w5,p1,p2,af]
theorem Bl {xs:List AV} (h:ey Tryz.prog [3,31] xs):aq cfg 8 xs []=some (.bool true, []):=by obtain ⟨unit,r,rfl,_,_,h⟩:=eb h;obtain ⟨nl,z,l,r,e,hz,hn,hl,h9⟩:=Bk h;subst e;obtain rfl:r= []:=h9;exact yC unit nl z l hz hn hl
end Go.Proofs.YtfnkchadeaedlaaGreatDoor
