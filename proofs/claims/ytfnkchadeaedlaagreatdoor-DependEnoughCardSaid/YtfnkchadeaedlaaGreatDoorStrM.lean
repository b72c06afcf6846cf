/-
 Strings as lists of bytes. The order of strings. Cells in order: inserting, and sorting: one sorted list without doubles has the same members. No program.
-/
import Derived.Lib.Bytealg
set_option linter.all false
namespace Go.Proofs.YtfnkchadeaedlaaGreatDoor
abbrev ae:=List UInt8
theorem lZ: ∀a b:ae,Op.bytesLess a b=decide (Lib.compareBytes a b= -1)∧(Lib.compareBytes a b=0↔a=b)∧(Lib.compareBytes a b= -1∨Lib.compareBytes a b=0∨Lib.compareBytes a b=1)
 | [], []=>by simp [Op.bytesLess,Lib.compareBytes]
 | [],_::_=>by simp [Op.bytesLess,Lib.compareBytes]
 | _::_, []=>by simp [Op.bytesLess,Lib.compareBytes]
 | a::x,b::y=>by
  obtain ⟨h1,h2,h3⟩:=lZ x y;rw [Op.bytesLess];unfold Lib.compareBytes;by_cases l1:a<b
  ·have hne:a≠b:=fun h=>by subst h;exact UInt8.lt_irrefl a l1
   simp [l1,hne]
  ·by_cases l2:b<a
   ·have hne:a≠b:=fun h=>by subst h;exact UInt8.lt_irrefl a l2
    simp [l1,l2,hne]
   ·have he:a=b:=by have n1: ¬ a.toNat<b.toNat:=fun h=>l1 (UInt8.lt_iff_toNat_lt.2 h);have n2: ¬ b.toNat<a.toNat:=fun h=>l2 (UInt8.lt_iff_toNat_lt.2 h);exact UInt8.toNat_inj.1 (by omega)
    subst he;have h2':a::x=a::y↔x=y:=by simp
    rw [if_neg l1,if_neg l1,h2',←h2];refine ⟨?_,Iff.rfl,h3⟩;simp [l1,h1]
theorem PE (a b:ae):(a==b)=decide (Lib.compareBytes a b=0):=by rw [Bool.eq_iff_iff,beq_iff_eq,decide_eq_true_eq,(lZ a b).2.1]
theorem DP: ∀a b:ae,Lib.compareBytes b a= - Lib.compareBytes a b
 | [], []=>by simp [Lib.compareBytes]
 | [],_::_=>by simp [Lib.compareBytes]
 | _::_, []=>by simp [Lib.compareBytes]
 | a::x,b::y=>by
  have ih:=DP x y;unfold Lib.compareBytes;by_cases l1:a<b
  ·have l2: ¬ b<a:=UInt8.lt_asymm l1;rw [if_pos l1,if_neg l2,if_pos l1];rfl
  ·by_cases l2:b<a
   ·rw [if_pos l2,if_neg l1,if_pos l2]
   ·rw [if_neg l1,if_neg l2,if_neg l1,if_neg l2,ih]
theorem Bn: ∀a b c:ae,Lib.compareBytes a b≤0→Lib.compareBytes b c≤0→Lib.compareBytes a c≤0∧(Lib.compareBytes a c=0→Lib.compareBytes a b=0∧Lib.compareBytes b c=0)
 | [], [], []=>by simp [Lib.compareBytes]
 | [], [],_::_=>by simp [Lib.compareBytes]
 | [],_::_, []=>by simp [Lib.compareBytes]
 | [],_::_,_::_=>by simp [Lib.compareBytes]
 | _::_, [],_=>by simp [Lib.compareBytes]
 | _::_,_::_, []=>by simp [Lib.compareBytes]
 | a::x,b::y,c::z=>by
  have ih:=Bn x y z;unfold Lib.compareBytes;simp only [UInt8.lt_iff_toNat_lt];intro h1 h2;by_cases l1:a.toNat<b.toNat
  ·rw [if_pos l1] at h1⊢;by_cases l2:b.toNat<c.toNat
   ·rw [if_pos (by omega)];exact ⟨by decide,fun h=>absurd h (by decide)⟩
   ·rw [if_neg l2] at h2;by_cases l3:c.toNat<b.toNat
    ·rw [if_pos l3] at h2;exact absurd h2 (by decide)
    ·rw [if_pos (by omega)];exact ⟨by decide,fun h=>absurd h (by decide)⟩
  ·rw [if_neg l1] at h1⊢;by_cases l3:b.toNat<a.toNat
   ·rw [if_pos l3] at h1;exact absurd h1 (by decide)
   ·rw [if_neg l3] at h1⊢;by_cases l2:b.toNat<c.toNat
    ·rw [if_pos (by omega)];exact ⟨by decide,fun h=>absurd h (by decide)⟩
    ·rw [if_neg l2] at h2⊢;by_cases l4:c.toNat<b.toNat
     ·rw [if_pos l4] at h2;exact absurd h2 (by decide)
     ·rw [if_neg l4] at h2⊢;rw [if_neg (by omega),if_neg (by omega)];exact ih h1 h2
theorem JZ (a:ae):Lib.compareBytes a a=0:=(lZ a a).2.1.2 rfl
abbrev Cell:=Int×Int
def fc (a b:Cell):Bool:=decide (a.1<b.1∨a.1=b.1∧a.2<b.2)
def ph:List Cell→Cell→List Cell
 | [],x=> [x]
 | y::r,x=>if fc y x=true then y::ph r x else if y=x then y::r else x::y::r
def fD:List Cell→Prop
 | []=>True
 | x::r=>(∀y∈r,fc x y=true)∧fD r
theorem iu {a b:Cell}:fc a b=true↔(a.1<b.1∨a.1=b.1∧a.2<b.2):=by simp [fc]
theorem eJ {a b c:Cell} (h1:fc a b=true) (h2:fc b c=true):fc a c=true:=by rw [iu] at*;omega
theorem eI (a:Cell): ¬ fc a a=true:=by rw [iu];omega
theorem lK {a b:Cell} (h: ¬ fc a b=true) (hne:a≠b):fc b a=true:=by
 rw [iu] at*
 have: ¬ (a.1=b.1∧a.2=b.2):=fun h=>hne (Prod.ext h.1 h.2);omega
theorem vR: ∀(l:List Cell) (x z:Cell),z∈ph l x↔z=x∨z∈l
 | [],x,z=>by simp [ph]
 | y::r,x,z=>by
  unfold ph;split
  ·rw [List.mem_cons,vR r x z,List.mem_cons];constructor
   ·rintro (h | h | h)
    ·exact .inr (.inl h)
    ·exact .inl h
    ·exact .inr (.inr h)
   ·rintro (h | h | h)
    ·exact .inr (.inl h)
    ·exact .inl h
    ·exact .inr (.inr h)
  ·split
   ·rename_i h;constructor
    ·exact fun h=> .inr h
    ·rintro (h' | h')
     ·rw [h',←h];simp
     ·exact h'
   ·simp
theorem BY: ∀(l:List Cell) (x:Cell),fD l→fD (ph l x)
 | [],x,_=>⟨by simp,trivial⟩
 | y::r,x,h=>by
  unfold ph;split
  ·rename_i hb;refine ⟨fun z hz=> ?_,BY r x h.2⟩;rcases (vR r x z).1 hz with h1 | h1
   ·rw [h1];exact hb
   ·exact h.1 z h1
  ·rename_i hb;split
   ·exact h
   ·rename_i hne;have hxy:=lK hb hne;refine ⟨fun z hz=> ?_,h⟩;rcases List.mem_cons.1 hz with h1 | h1
    ·rw [h1];exact hxy
    ·exact eJ hxy (h.1 z h1)
theorem BZ: ∀(a b:List Cell),fD a→fD b→(∀z,z∈a↔z∈b)→a=b
 | [], [],_,_,_=>rfl
 | [],y::b,_,_,h=>absurd ((h y).2 (by simp)) (by simp)
 | x::a, [],_,_,h=>absurd ((h x).1 (by simp)) (by simp)
 | x::a,y::b,ha,hb,h=>by
  have hxy:x=y:=by
   rcases List.mem_cons.1 ((h x).1 (by simp)) with h1 | h1
   ·exact h1
   ·rcases List.mem_cons.1 ((h y).2 (by simp)) with h2 | h2
    ·exact h2.symm
    ·have:=eJ (ha.1 y h2) (hb.1 x h1);exact absurd this (eI x)
  subst hxy;congr 1;refine BZ a b ha.2 hb.2 fun z=> ?_;constructor
  ·intro hz;rcases List.mem_cons.1 ((h z).1 (by simp [hz])) with h1 | h1
   ·rw [h1] at hz;exact absurd (ha.1 x hz) (eI x)
   ·exact h1
  ·intro hz;rcases List.mem_cons.1 ((h z).2 (by simp [hz])) with h1 | h1
   ·rw [h1] at hz;exact absurd (hb.1 x hz) (eI x)
   ·exact h1
def nh (a b:Int):Int:=if a<b then -1 else if a=b then 0 else 1
def jo (a b:Cell):Int:=if nh a.1 b.1=0 then nh a.2 b.2 else nh a.1 b.1
theorem iq (a b:Cell):jo a b<0↔fc a b=true:=by
 rw [iu];unfold jo nh
 repeat' split
 all_goals omega
theorem Gb (a b:Cell):jo a b=0↔a=b:=by
 constructor
 ·intro h;unfold jo nh at h;apply Prod.ext
  ·repeat' split at h
   all_goals omega
  ·repeat' split at h
   all_goals omega
 ·rintro rfl;simp [jo,nh]
theorem oz: ∀(l:List Cell),l.Nodup→l.Pairwise (fun a b=> ¬ fc b a=true)→fD l
 | [],_,_=>trivial
 | x::r,hn,hp=>by
  rw [List.nodup_cons] at hn;rw [List.pairwise_cons] at hp;refine ⟨fun y hy=> ?_,oz r hn.2 hp.2⟩;refine lK (hp.1 y hy) fun h=> ?_;rw [h] at hy;exact hn.1 hy
theorem xF: ∀(l K:List Cell) (z:Cell),z∈l.foldl ph K↔z∈l∨z∈K
 | [],K,z=>by simp
 | x::r,K,z=>by
  rw [List.foldl_cons,xF r,vR,List.mem_cons];constructor
  ·rintro (h | h | h)
   ·exact .inl (.inr h)
   ·exact .inl (.inl h)
   ·exact .inr h
  ·rintro ((h | h) | h)
   ·exact .inr (.inl h)
   ·exact .inl h
   ·exact .inr (.inr h)
theorem xE: ∀(l K:List Cell),fD K→fD (l.foldl ph K)
 | [],_,h=>h
 | x::r,K,h=>xE r _ (BY K x h)
theorem y6 {val:Cell→ae} {out:List (Cell×ae)} {S:List Cell} (hS:fD S) (hv: ∀r∈out,r.2=val r.1) (hm: ∀z,z∈out.map Prod.fst↔z∈S) (hn:(out.map Prod.fst).Nodup)
  (hp:(out.map Prod.fst).Pairwise fun a b=> ¬ fc b a=true):out=S.map fun x=>(x,val x):=by
 have h1:=BZ _ _ (oz _ hn hp) hS hm;rw [←h1,List.map_map]
 have: ∀l:List (Cell×ae),(∀r∈l,r.2=val r.1)→l=l.map ((fun x=>(x,val x))∘Prod.fst):=fun l=>by
  induction l with
  | nil=>intro _;rfl
  | cons a r ih=>intro h;rw [List.map_cons,←ih (fun r hr=>h r (by simp [hr]))];congr 1;exact Prod.ext rfl (h a (by simp))
 exact this out hv
end Go.Proofs.YtfnkchadeaedlaaGreatDoor
