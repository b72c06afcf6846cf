/-
 Strings as lists of bytes. The order of strings. Cells in order: inserting, and sorting: one sorted list without doubles has the same members. No program.
-/
import Derived.Lib.Bytealg
set_option linter.all false
namespace Go.Proofs.YtfnkchadeaedlaaGreatDoor
abbrev ag:=List UInt8
theorem lI: ∀a b:ag,Op.bytesLess a b=decide (Lib.compareBytes a b= -1)∧(Lib.compareBytes a b=0↔a=b)∧(Lib.compareBytes a b= -1∨Lib.compareBytes a b=0∨Lib.compareBytes a b=1)
 | [], []=>by simp [Op.bytesLess,Lib.compareBytes]
 | [],_::_=>by simp [Op.bytesLess,Lib.compareBytes]
 | _::_, []=>by simp [Op.bytesLess,Lib.compareBytes]
 | a::x,b::y=>by
  obtain ⟨h1,h2,h3⟩:=lI x y;rw [Op.bytesLess];unfold Lib.compareBytes;by_cases l1:a<b
  ·have hne:a≠b:=fun h=>by subst h;exact UInt8.lt_irrefl a l1
   simp [l1,hne]
  ·by_cases l2:b<a
   ·have hne:a≠b:=fun h=>by subst h;exact UInt8.lt_irrefl a l2
    simp [l1,l2,hne]
   ·have he:a=b:=by have n1: ¬ a.toNat<b.toNat:=fun h=>l1 (UInt8.lt_iff_toNat_lt.2 h);have n2: ¬ b.toNat<a.toNat:=fun h=>l2 (UInt8.lt_iff_toNat_lt.2 h);exact UInt8.toNat_inj.1 (by omega)
    subst he;have h2':a::x=a::y↔x=y:=by simp
    rw [if_neg l1,if_neg l1,h2',←h2];refine ⟨?_,Iff.rfl,h3⟩;simp [l1,h1]
theorem O2 (a b:ag):(a==b)=decide (Lib.compareBytes a b=0):=by rw [Bool.eq_iff_iff,beq_iff_eq,decide_eq_true_eq,(lI a b).2.1]
theorem C9: ∀a b:ag,Lib.compareBytes b a= - Lib.compareBytes a b
 | [], []=>by simp [Lib.compareBytes]
 | [],_::_=>by simp [Lib.compareBytes]
 | _::_, []=>by simp [Lib.compareBytes]
 | a::x,b::y=>by
  have ih:=C9 x y;unfold Lib.compareBytes;by_cases l1:a<b
  ·have l2: ¬ b<a:=UInt8.lt_asymm l1;rw [if_pos l1,if_neg l2,if_pos l1];rfl
  ·by_cases l2:b<a
   ·rw [if_pos l2,if_neg l1,if_pos l2]
   ·rw [if_neg l1,if_neg l2,if_neg l1,if_neg l2,ih]
theorem AM: ∀a b c:ag,Lib.compareBytes a b≤0→Lib.compareBytes b c≤0→Lib.compareBytes a c≤0∧(Lib.compareBytes a c=0→Lib.compareBytes a b=0∧Lib.compareBytes b c=0)
 | [], [], []=>by simp [Lib.compareBytes]
 | [], [],_::_=>by simp [Lib.compareBytes]
 | [],_::_, []=>by simp [Lib.compareBytes]
 | [],_::_,_::_=>by simp [Lib.compareBytes]
 | _::_, [],_=>by simp [Lib.compareBytes]
 | _::_,_::_, []=>by simp [Lib.compareBytes]
 | a::x,b::y,c::z=>by
  have ih:=AM x y z;unfold Lib.compareBytes;simp only [UInt8.lt_iff_toNat_lt];intro h1 h2;by_cases l1:a.toNat<b.toNat
  ·rw [if_pos l1] at h1⊢;by_cases l2:b.toNat<c.toNat
   ·rw [if_pos (by omega)];exact ⟨by decide,fun h=>absurd h (by decide)⟩
   ·rw [if_neg l2] at h2;by_cases l3:c.toNat<b.toNat
    ·rw [if_pos l3] at h2;exact absurd h2 (by decide)
    ·rw [if_pos (by omega)];exact ⟨by decide,fun h=>absurd h (by decide)⟩
  ·rw [if_neg l1] at h1⊢;by_cases l3:b.toNat<a.toNat
   ·rw [if_pos l3] at h1;exact absurd h1 (by decide)
   ·rw [if_neg l3] at h1⊢;by_cases l2:b.toNat<c.toNat
    ·rw [if_pos (by omega)];exact ⟨by decide,fun h=>absurd h (by decide)⟩
    ·rw [if_neg l2] at h2⊢;by_cases l4:c.toNat<b.toNat
     ·rw [if_pos l4] at h2;exact absurd h2 (by decide)
     ·rw [if_neg l4] at h2⊢;rw [if_neg (by omega),if_neg (by omega)];exact ih h1 h2
theorem I1 (a:ag):Lib.compareBytes a a=0:=(lI a a).2.1.2 rfl
abbrev Cell:=Int×Int
def eI (a b:Cell):Bool:=decide (a.1<b.1∨a.1=b.1∧a.2<b.2)
def yq:List Cell→Cell→List Cell
 | [],x=> [x]
 | y::r,x=>if eI y x=true then y::yq r x else if y=x then y::r else x::y::r
def iT:List Cell→Prop
 | []=>True
 | x::r=>(∀y∈r,eI x y=true)∧iT r
theorem gU {a b:Cell}:eI a b=true↔(a.1<b.1∨a.1=b.1∧a.2<b.2):=by simp [eI]
theorem ew {a b c:Cell} (h1:eI a b=true) (h2:eI b c=true):eI a c=true:=by rw [gU] at*;omega
theorem fc (a:Cell): ¬ eI a a=true:=by rw [gU];omega
theorem lu {a b:Cell} (h: ¬ eI a b=true) (hne:a≠b):eI b a=true:=by
 rw [gU] at*
 have: ¬ (a.1=b.1∧a.2=b.2):=fun h=>hne (Prod.ext h.1 h.2);omega
theorem vy: ∀(l:List Cell) (x z:Cell),z∈yq l x↔z=x∨z∈l
 | [],x,z=>by simp [yq]
 | y::r,x,z=>by
  unfold yq;split
  ·rw [List.mem_cons,vy r x z,List.mem_cons];constructor
   ·rintro (h | h | h)
    ·exact .inr (.inl h)
    ·exact .inl h
    ·exact .inr (.inr h)
   ·rintro (h | h | h)
    ·exact .inr (.inl h)
    ·exact .inl h
    ·exact .inr (.inr h)
  ·split
   ·rename_i h;constructor
    ·exact fun h=> .inr h
    ·rintro (h' | h')
     ·rw [h',←h];simp
     ·exact h'
   ·simp
theorem Bx: ∀(l:List Cell) (x:Cell),iT l→iT (yq l x)
 | [],x,_=>⟨by simp,trivial⟩
 | y::r,x,h=>by
  unfold yq;split
  ·rename_i hb;refine ⟨fun z hz=> ?_,Bx r x h.2⟩;rcases (vy r x z).1 hz with h1 | h1
   ·rw [h1];exact hb
   ·exact h.1 z h1
  ·rename_i hb;split
   ·exact h
   ·rename_i hne;have hxy:=lu hb hne;refine ⟨fun z hz=> ?_,h⟩;rcases List.mem_cons.1 hz with h1 | h1
    ·rw [h1];exact hxy
    ·exact ew hxy (h.1 z h1)
theorem By: ∀(a b:List Cell),iT a→iT b→(∀z,z∈a↔z∈b)→a=b
 | [], [],_,_,_=>rfl
 | [],y::b,_,_,h=>absurd ((h y).2 (by simp)) (by simp)
 | x::a, [],_,_,h=>absurd ((h x).1 (by simp)) (by simp)
 | x::a,y::b,ha,hb,h=>by
  have hxy:x=y:=by
   rcases List.mem_cons.1 ((h x).1 (by simp)) with h1 | h1
   ·exact h1
   ·rcases List.mem_cons.1 ((h y).2 (by simp)) with h2 | h2
    ·exact h2.symm
    ·have:=ew (ha.1 y h2) (hb.1 x h1);exact absurd this (fc x)
  subst hxy;congr 1;refine By a b ha.2 hb.2 fun z=> ?_;constructor
  ·intro hz;rcases List.mem_cons.1 ((h z).1 (by simp [hz])) with h1 | h1
   ·rw [h1] at hz;exact absurd (ha.1 x hz) (fc x)
   ·exact h1
  ·intro hz;rcases List.mem_cons.1 ((h z).2 (by simp [hz])) with h1 | h1
   ·rw [h1] at hz;exact absurd (hb.1 x hz) (fc x)
   ·exact h1
def mK (a b:Int):Int:=if a<b then -1 else if a=b then 0 else 1
def iW (a b:Cell):Int:=if mK a.1 b.1=0 then mK a.2 b.2 else mK a.1 b.1
theorem gT (a b:Cell):iW a b<0↔eI a b=true:=by
 rw [gU];unfold iW mK
 repeat' split
 all_goals omega
theorem Fb (a b:Cell):iW a b=0↔a=b:=by
 constructor
 ·intro h;unfold iW mK at h;apply Prod.ext
  ·repeat' split at h
   all_goals omega
  ·repeat' split at h
   all_goals omega
 ·rintro rfl;simp [iW,mK]
theorem nQ: ∀(l:List Cell),l.Nodup→l.Pairwise (fun a b=> ¬ eI b a=true)→iT l
 | [],_,_=>trivial
 | x::r,hn,hp=>by
  rw [List.nodup_cons] at hn;rw [List.pairwise_cons] at hp;refine ⟨fun y hy=> ?_,nQ r hn.2 hp.2⟩;refine lu (hp.1 y hy) fun h=> ?_;rw [h] at hy;exact hn.1 hy
theorem xf: ∀(l K:List Cell) (z:Cell),z∈l.foldl yq K↔z∈l∨z∈K
 | [],K,z=>by simp
 | x::r,K,z=>by
  rw [List.foldl_cons,xf r,vy,List.mem_cons];constructor
  ·rintro (h | h | h)
   ·exact .inl (.inr h)
   ·exact .inl (.inl h)
   ·exact .inr h
  ·rintro ((h | h) | h)
   ·exact .inr (.inl h)
   ·exact .inl h
   ·exact .inr (.inr h)
theorem xe: ∀(l K:List Cell),iT K→iT (l.foldl yq K)
 | [],_,h=>h
 | x::r,K,h=>xe r _ (Bx K x h)
theorem yr {val:Cell→ag} {out:List (Cell×ag)} {S:List Cell} (hS:iT S) (hv: ∀r∈out,r.2=val r.1) (hm: ∀z,z∈out.map Prod.fst↔z∈S) (hn:(out.map Prod.fst).Nodup)
  (hp:(out.map Prod.fst).Pairwise fun a b=> ¬ eI b a=true):out=S.map fun x=>(x,val x):=by
 have h1:=By _ _ (nQ _ hn hp) hS hm;rw [←h1,List.map_map]
 have: ∀l:List (Cell×ag),(∀r∈l,r.2=val r.1)→l=l.map ((fun x=>(x,val x))∘Prod.fst):=fun l=>by
  induction l with
  | nil=>intro _;rfl
  | cons a r ih=>intro h;rw [List.map_cons,←ih (fun r hr=>h r (by simp [hr]))];congr 1;exact Prod.ext rfl (h a (by simp))
 exact this out hv
end Go.Proofs.YtfnkchadeaedlaaGreatDoor
