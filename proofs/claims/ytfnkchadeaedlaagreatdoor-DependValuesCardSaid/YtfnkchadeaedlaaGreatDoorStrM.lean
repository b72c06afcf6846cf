/-
 Strings as lists of bytes. The order of strings. Cells in order: inserting, and sorting: one sorted list without doubles has the same members. No program.
-/
import Derived.Lib.Bytealg
set_option linter.all false
namespace Go.Proofs.YtfnkchadeaedlaaGreatDoor
abbrev af:=List UInt8
theorem ky: ∀a b:af,Op.bytesLess a b=decide (Lib.compareBytes a b= -1)∧(Lib.compareBytes a b=0↔a=b)∧(Lib.compareBytes a b= -1∨Lib.compareBytes a b=0∨Lib.compareBytes a b=1)
 | [], []=>by simp [Op.bytesLess,Lib.compareBytes]
 | [],_::_=>by simp [Op.bytesLess,Lib.compareBytes]
 | _::_, []=>by simp [Op.bytesLess,Lib.compareBytes]
 | a::x,b::y=>by
  obtain ⟨h1,h2,h3⟩:=ky x y;rw [Op.bytesLess];unfold Lib.compareBytes;by_cases l1:a<b
  ·have hne:a≠b:=fun h=>by subst h;exact UInt8.lt_irrefl a l1
   simp [l1,hne]
  ·by_cases l2:b<a
   ·have hne:a≠b:=fun h=>by subst h;exact UInt8.lt_irrefl a l2
    simp [l1,l2,hne]
   ·have he:a=b:=by have n1: ¬ a.toNat<b.toNat:=fun h=>l1 (UInt8.lt_iff_toNat_lt.2 h);have n2: ¬ b.toNat<a.toNat:=fun h=>l2 (UInt8.lt_iff_toNat_lt.2 h);exact UInt8.toNat_inj.1 (by omega)
    subst he;have h2':a::x=a::y↔x=y:=by simp
    rw [if_neg l1,if_neg l1,h2',←h2];refine ⟨?_,Iff.rfl,h3⟩;simp [l1,h1]
theorem Re (a b:af):(a==b)=decide (Lib.compareBytes a b=0):=by rw [Bool.eq_iff_iff,beq_iff_eq,decide_eq_true_eq,(ky a b).2.1]
theorem Ev: ∀a b:af,Lib.compareBytes b a= - Lib.compareBytes a b
 | [], []=>by simp [Lib.compareBytes]
 | [],_::_=>by simp [Lib.compareBytes]
 | _::_, []=>by simp [Lib.compareBytes]
 | a::x,b::y=>by
  have ih:=Ev x y;unfold Lib.compareBytes;by_cases l1:a<b
  ·have l2: ¬ b<a:=UInt8.lt_asymm l1;rw [if_pos l1,if_neg l2,if_pos l1];rfl
  ·by_cases l2:b<a
   ·rw [if_pos l2,if_neg l1,if_pos l2]
   ·rw [if_neg l1,if_neg l2,if_neg l1,if_neg l2,ih]
theorem BW: ∀a b c:af,Lib.compareBytes a b≤0→Lib.compareBytes b c≤0→Lib.compareBytes a c≤0∧(Lib.compareBytes a c=0→Lib.compareBytes a b=0∧Lib.compareBytes b c=0)
 | [], [], []=>by simp [Lib.compareBytes]
 | [], [],_::_=>by simp [Lib.compareBytes]
 | [],_::_, []=>by simp [Lib.compareBytes]
 | [],_::_,_::_=>by simp [Lib.compareBytes]
 | _::_, [],_=>by simp [Lib.compareBytes]
 | _::_,_::_, []=>by simp [Lib.compareBytes]
 | a::x,b::y,c::z=>by
  have ih:=BW x y z;unfold Lib.compareBytes;simp only [UInt8.lt_iff_toNat_lt];intro h1 h2;by_cases l1:a.toNat<b.toNat
  ·rw [if_pos l1] at h1⊢;by_cases l2:b.toNat<c.toNat
   ·rw [if_pos (by omega)];exact ⟨by decide,fun h=>absurd h (by decide)⟩
   ·rw [if_neg l2] at h2;by_cases l3:c.toNat<b.toNat
    ·rw [if_pos l3] at h2;exact absurd h2 (by decide)
    ·rw [if_pos (by omega)];exact ⟨by decide,fun h=>absurd h (by decide)⟩
  ·rw [if_neg l1] at h1⊢;by_cases l3:b.toNat<a.toNat
   ·rw [if_pos l3] at h1;exact absurd h1 (by decide)
   ·rw [if_neg l3] at h1⊢;by_cases l2:b.toNat<c.toNat
    ·rw [if_pos (by omega)];exact ⟨by decide,fun h=>absurd h (by decide)⟩
    ·rw [if_neg l2] at h2⊢;by_cases l4:c.toNat<b.toNat
     ·rw [if_pos l4] at h2;exact absurd h2 (by decide)
     ·rw [if_neg l4] at h2⊢;rw [if_neg (by omega),if_neg (by omega)];exact ih h1 h2
theorem K4 (a:af):Lib.compareBytes a a=0:=(ky a a).2.1.2 rfl
abbrev Cell:=Int×Int
def dQ (a b:Cell):Bool:=decide (a.1<b.1∨a.1=b.1∧a.2<b.2)
def gB:List Cell→Cell→List Cell
 | [],x=> [x]
 | y::r,x=>if dQ y x=true then y::gB r x else if y=x then y::r else x::y::r
def jr:List Cell→Prop
 | []=>True
 | x::r=>(∀y∈r,dQ x y=true)∧jr r
theorem iE {a b:Cell}:dQ a b=true↔(a.1<b.1∨a.1=b.1∧a.2<b.2):=by simp [dQ]
theorem eR {a b c:Cell} (h1:dQ a b=true) (h2:dQ b c=true):dQ a c=true:=by rw [iE] at*;omega
theorem fJ (a:Cell): ¬ dQ a a=true:=by rw [iE];omega
theorem lW {a b:Cell} (h: ¬ dQ a b=true) (hne:a≠b):dQ b a=true:=by
 rw [iE] at*
 have: ¬ (a.1=b.1∧a.2=b.2):=fun h=>hne (Prod.ext h.1 h.2);omega
theorem wA: ∀(l:List Cell) (x z:Cell),z∈gB l x↔z=x∨z∈l
 | [],x,z=>by simp [gB]
 | y::r,x,z=>by
  unfold gB;split
  ·rw [List.mem_cons,wA r x z,List.mem_cons];constructor
   ·rintro (h | h | h)
    ·exact .inr (.inl h)
    ·exact .inl h
    ·exact .inr (.inr h)
   ·rintro (h | h | h)
    ·exact .inr (.inl h)
    ·exact .inl h
    ·exact .inr (.inr h)
  ·split
   ·rename_i h;constructor
    ·exact fun h=> .inr h
    ·rintro (h' | h')
     ·rw [h',←h];simp
     ·exact h'
   ·simp
theorem CE: ∀(l:List Cell) (x:Cell),jr l→jr (gB l x)
 | [],x,_=>⟨by simp,trivial⟩
 | y::r,x,h=>by
  unfold gB;split
  ·rename_i hb;refine ⟨fun z hz=> ?_,CE r x h.2⟩;rcases (wA r x z).1 hz with h1 | h1
   ·rw [h1];exact hb
   ·exact h.1 z h1
  ·rename_i hb;split
   ·exact h
   ·rename_i hne;have hxy:=lW hb hne;refine ⟨fun z hz=> ?_,h⟩;rcases List.mem_cons.1 hz with h1 | h1
    ·rw [h1];exact hxy
    ·exact eR hxy (h.1 z h1)
theorem CF: ∀(a b:List Cell),jr a→jr b→(∀z,z∈a↔z∈b)→a=b
 | [], [],_,_,_=>rfl
 | [],y::b,_,_,h=>absurd ((h y).2 (by simp)) (by simp)
 | x::a, [],_,_,h=>absurd ((h x).1 (by simp)) (by simp)
 | x::a,y::b,ha,hb,h=>by
  have hxy:x=y:=by
   rcases List.mem_cons.1 ((h x).1 (by simp)) with h1 | h1
   ·exact h1
   ·rcases List.mem_cons.1 ((h y).2 (by simp)) with h2 | h2
    ·exact h2.symm
    ·have:=eR (ha.1 y h2) (hb.1 x h1);exact absurd this (fJ x)
  subst hxy;congr 1;refine CF a b ha.2 hb.2 fun z=> ?_;constructor
  ·intro hz;rcases List.mem_cons.1 ((h z).1 (by simp [hz])) with h1 | h1
   ·rw [h1] at hz;exact absurd (ha.1 x hz) (fJ x)
   ·exact h1
  ·intro hz;rcases List.mem_cons.1 ((h z).2 (by simp [hz])) with h1 | h1
   ·rw [h1] at hz;exact absurd (hb.1 x hz) (fJ x)
   ·exact h1
def nu (a b:Int):Int:=if a<b then -1 else if a=b then 0 else 1
def js (a b:Cell):Int:=if nu a.1 b.1=0 then nu a.2 b.2 else nu a.1 b.1
theorem iD (a b:Cell):js a b<0↔dQ a b=true:=by
 rw [iE];unfold js nu
 repeat' split
 all_goals omega
theorem GM (a b:Cell):js a b=0↔a=b:=by
 constructor
 ·intro h;unfold js nu at h;apply Prod.ext
  ·repeat' split at h
   all_goals omega
  ·repeat' split at h
   all_goals omega
 ·rintro rfl;simp [js,nu]
theorem oL: ∀(l:List Cell),l.Nodup→l.Pairwise (fun a b=> ¬ dQ b a=true)→jr l
 | [],_,_=>trivial
 | x::r,hn,hp=>by
  rw [List.nodup_cons] at hn;rw [List.pairwise_cons] at hp;refine ⟨fun y hy=> ?_,oL r hn.2 hp.2⟩;refine lW (hp.1 y hy) fun h=> ?_;rw [h] at hy;exact hn.1 hy
theorem ye: ∀(l K:List Cell) (z:Cell),z∈l.foldl gB K↔z∈l∨z∈K
 | [],K,z=>by simp
 | x::r,K,z=>by
  rw [List.foldl_cons,ye r,wA,List.mem_cons];constructor
  ·rintro (h | h | h)
   ·exact .inl (.inr h)
   ·exact .inl (.inl h)
   ·exact .inr h
  ·rintro ((h | h) | h)
   ·exact .inr (.inl h)
   ·exact .inl h
   ·exact .inr (.inr h)
theorem yd: ∀(l K:List Cell),jr K→jr (l.foldl gB K)
 | [],_,h=>h
 | x::r,K,h=>yd r _ (CE K x h)
theorem zC {val:Cell→af} {out:List (Cell×af)} {S:List Cell} (hS:jr S) (hv: ∀r∈out,r.2=val r.1) (hm: ∀z,z∈out.map Prod.fst↔z∈S) (hn:(out.map Prod.fst).Nodup)
  (hp:(out.map Prod.fst).Pairwise fun a b=> ¬ dQ b a=true):out=S.map fun x=>(x,val x):=by
 have h1:=CF _ _ (oL _ hn hp) hS hm;rw [←h1,List.map_map]
 have: ∀l:List (Cell×af),(∀r∈l,r.2=val r.1)→l=l.map ((fun x=>(x,val x))∘Prod.fst):=fun l=>by
  induction l with
  | nil=>intro _;rfl
  | cons a r ih=>intro h;rw [List.map_cons,←ih (fun r hr=>h r (by simp [hr]))];congr 1;exact Prod.ext rfl (h a (by simp))
 exact this out hv
end Go.Proofs.YtfnkchadeaedlaaGreatDoor
