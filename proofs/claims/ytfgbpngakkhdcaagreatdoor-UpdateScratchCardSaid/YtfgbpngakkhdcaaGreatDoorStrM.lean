/- Strings as lists of bytes. -/
import Derived.Lib.Bytealg
open List renaming mem_cons->aaQ
set_option linter.all false
namespace Go.Proofs.YtfgbpngakkhdcaaGreatDoor
abbrev ae:=List UInt8
theorem nE: ∀a b:ae,Op.bytesLess a b=decide (Lib.compareBytes a b= -1)∧(Lib.compareBytes a b=0↔a=b)∧(Lib.compareBytes a b= -1∨Lib.compareBytes a b=0∨Lib.compareBytes a b=1)
 | [], []=>by simp [Op.bytesLess,Lib.compareBytes]
 | [],_::_=>by simp [Op.bytesLess,Lib.compareBytes]
 | _::_, []=>by simp [Op.bytesLess,Lib.compareBytes]
 | a::x,b::y=>by
  obtain ⟨h1,h2,h3⟩:=nE x y;rw [Op.bytesLess];unfold Lib.compareBytes;by_cases l1:a<b
  ·have hne:a≠b:=fun h=>by subst h;exact UInt8.lt_irrefl a l1
   simp [l1,hne]
  ·by_cases l2:b<a
   ·have hne:a≠b:=fun h=>by subst h;exact UInt8.lt_irrefl a l2
    simp [l1,l2,hne]
   ·have he:a=b:=by have n1: ¬ a.toNat<b.toNat:=fun h=>l1 (UInt8.lt_iff_toNat_lt.2 h);have n2: ¬ b.toNat<a.toNat:=fun h=>l2 (UInt8.lt_iff_toNat_lt.2 h);exact UInt8.toNat_inj.1 (by omega)
    subst he;have h2':a::x=a::y↔x=y:=by simp
    rw [if_neg l1,if_neg l1,h2',<-h2];refine ⟨?_,Iff.rfl,h3⟩;simp [l1,h1]
theorem Uw (a b:ae):(a==b)=decide (Lib.compareBytes a b=0):=by rw [Bool.eq_iff_iff,beq_iff_eq,decide_eq_true_eq,(nE a b).2.1]
theorem GB: ∀a b:ae,Lib.compareBytes b a= - Lib.compareBytes a b
 | [], []=>by simp [Lib.compareBytes]
 | [],_::_=>by simp [Lib.compareBytes]
 | _::_, []=>by simp [Lib.compareBytes]
 | a::x,b::y=>by
  have ih:=GB x y;unfold Lib.compareBytes;by_cases l1:a<b
  ·have l2: ¬ b<a:=UInt8.lt_asymm l1;rw [if_pos l1,if_neg l2,if_pos l1];rfl
  ·by_cases l2:b<a
   ·rw [if_pos l2,if_neg l1,if_pos l2]
   ·rw [if_neg l1,if_neg l2,if_neg l1,if_neg l2,ih]
theorem DN: ∀a b c:ae,Lib.compareBytes a b<=0->Lib.compareBytes b c<=0->Lib.compareBytes a c<=0∧(Lib.compareBytes a c=0->Lib.compareBytes a b=0∧Lib.compareBytes b c=0)
 | [], [], []=>by simp [Lib.compareBytes]
 | [], [],_::_=>by simp [Lib.compareBytes]
 | [],_::_, []=>by simp [Lib.compareBytes]
 | [],_::_,_::_=>by simp [Lib.compareBytes]
 | _::_, [],_=>by simp [Lib.compareBytes]
 | _::_,_::_, []=>by simp [Lib.compareBytes]
 | a::x,b::y,c::z=>by
  have ih:=DN x y z;unfold Lib.compareBytes;simp only [UInt8.lt_iff_toNat_lt];intro h1 h2;by_cases l1:a.toNat<b.toNat
  ·rw [if_pos l1] at h1⊢;by_cases l2:b.toNat<c.toNat
   ·rw [if_pos (by omega)];exact ⟨by decide,fun h=>absurd h (by decide)⟩
   ·rw [if_neg l2] at h2;by_cases l3:c.toNat<b.toNat
    ·rw [if_pos l3] at h2;exact absurd h2 (by decide)
    ·rw [if_pos (by omega)];exact ⟨by decide,fun h=>absurd h (by decide)⟩
  ·rw [if_neg l1] at h1⊢;by_cases l3:b.toNat<a.toNat
   ·rw [if_pos l3] at h1;exact absurd h1 (by decide)
   ·rw [if_neg l3] at h1⊢;by_cases l2:b.toNat<c.toNat
    ·rw [if_pos (by omega)];exact ⟨by decide,fun h=>absurd h (by decide)⟩
    ·rw [if_neg l2] at h2⊢;by_cases l4:c.toNat<b.toNat
     ·rw [if_pos l4] at h2;exact absurd h2 (by decide)
     ·rw [if_neg l4] at h2⊢;rw [if_neg (by omega),if_neg (by omega)];exact ih h1 h2
theorem N6 (a:ae):Lib.compareBytes a a=0:=(nE a a).2.1.2 rfl
abbrev Cell:=Int×Int
def fY (a b:Cell):Bool:=decide (a.1<b.1∨a.1=b.1∧a.2<b.2)
def lp:List Cell->Cell->List Cell
 | [],x=> [x]
 | y::r,x=>if fY y x=true then y::lp r x else if y=x then y::r else x::y::r
def gq:List Cell->Prop
 | []=>True
 | x::r=>(∀y∈r,fY x y=true)∧gq r
theorem gu {a b:Cell}:fY a b=true↔(a.1<b.1∨a.1=b.1∧a.2<b.2):=by simp [fY]
theorem fk {a b c:Cell} (h1:fY a b=true) (h2:fY b c=true):fY a c=true:=by rw [gu] at*;omega
theorem fj (a:Cell): ¬ fY a a=true:=by rw [gu];omega
theorem mZ {a b:Cell} (h: ¬ fY a b=true) (hne:a≠b):fY b a=true:=by
 rw [gu] at*
 have: ¬ (a.1=b.1∧a.2=b.2):=fun h=>hne (Prod.ext h.1 h.2);omega
theorem yc: ∀(l:List Cell) (x z:Cell),z∈lp l x↔z=x∨z∈l
 | [],x,z=>by simp [lp]
 | y::r,x,z=>by
  unfold lp;split
  ·rw [aaQ,yc r x z,aaQ];constructor
   ·rintro (h | h | h)
    ·exact .inr (.inl h)
    ·exact .inl h
    ·exact .inr (.inr h)
   ·rintro (h | h | h)
    ·exact .inr (.inl h)
    ·exact .inl h
    ·exact .inr (.inr h)
  ·split
   ·rename_i h;constructor
    ·exact fun h=> .inr h
    ·rintro (h' | h')
     ·rw [h',<-h];simp
     ·exact h'
   ·simp
theorem Eu: ∀(l:List Cell) (x:Cell),gq l->gq (lp l x)
 | [],x,_=>⟨by simp,trivial⟩
 | y::r,x,h=>by
  unfold lp;split
  ·rename_i hb;refine ⟨fun z hz=> ?_,Eu r x h.2⟩;rcases (yc r x z).1 hz with h1 | h1
   ·rw [h1];exact hb
   ·exact h.1 z h1
  ·rename_i hb;split
   ·exact h
   ·rename_i hne;have hxy:=mZ hb hne;refine ⟨fun z hz=> ?_,h⟩;rcases aaQ.1 hz with h1 | h1
    ·rw [h1];exact hxy
    ·exact fk hxy (h.1 z h1)
theorem yd: ∀(a b:List Cell),gq a->gq b->(∀z,z∈a↔z∈b)->a=b
 | [], [],_,_,_=>rfl
 | [],y::b,_,_,h=>absurd ((h y).2 (by simp)) (by simp)
 | x::a, [],_,_,h=>absurd ((h x).1 (by simp)) (by simp)
 | x::a,y::b,ha,hb,h=>by
  have hxy:x=y:=by
   rcases aaQ.1 ((h x).1 (by simp)) with h1 | h1
   ·exact h1
   ·rcases aaQ.1 ((h y).2 (by simp)) with h2 | h2
    ·exact h2.symm
    ·have:=fk (ha.1 y h2) (hb.1 x h1);exact absurd this (fj x)
  subst hxy;congr 1;refine yd a b ha.2 hb.2 fun z=> ?_;constructor
  ·intro hz;rcases aaQ.1 ((h z).1 (by simp [hz])) with h1 | h1
   ·rw [h1] at hz;exact absurd (ha.1 x hz) (fj x)
   ·exact h1
  ·intro hz;rcases aaQ.1 ((h z).2 (by simp [hz])) with h1 | h1
   ·rw [h1] at hz;exact absurd (hb.1 x hz) (fj x)
   ·exact h1
def kU (a b:Int):Int:=if a<b then -1 else if a=b then 0 else 1
def gr (a b:Cell):Int:=if kU a.1 b.1=0 then kU a.2 b.2 else kU a.1 b.1
theorem fQ (a b:Cell):gr a b<0↔fY a b=true:=by
 rw [gu];unfold gr kU
 repeat' split
 all_goals omega
theorem IS (a b:Cell):gr a b=0↔a=b:=by
 constructor
 ·intro h;unfold gr kU at h;apply Prod.ext
  ·repeat' split at h
   all_goals omega
  ·repeat' split at h
   all_goals omega
 ·rintro rfl;simp [gr,kU]
theorem lx: ∀(l:List Cell),l.Nodup->l.Pairwise (fun a b=> ¬ fY b a=true)->gq l
 | [],_,_=>trivial
 | x::r,hn,hp=>by
  rw [List.nodup_cons] at hn;rw [List.pairwise_cons] at hp;refine ⟨fun y hy=> ?_,lx r hn.2 hp.2⟩;refine mZ (hp.1 y hy) fun h=> ?_;rw [h] at hy;exact hn.1 hy
theorem tO: ∀(l K:List Cell) (z:Cell),z∈l.foldl lp K↔z∈l∨z∈K
 | [],K,z=>by simp
 | x::r,K,z=>by
  rw [List.foldl_cons,tO r,yc,aaQ];constructor
  ·rintro (h | h | h)
   ·exact .inl (.inr h)
   ·exact .inl (.inl h)
   ·exact .inr h
  ·rintro ((h | h) | h)
   ·exact .inr (.inl h)
   ·exact .inl h
   ·exact .inr (.inr h)
theorem tN: ∀(l K:List Cell),gq K->gq (l.foldl lp K)
 | [],_,h=>h
 | x::r,K,h=>tN r _ (Eu K x h)
theorem Ag {val:Cell->ae} {out:List (Cell×ae)} {S:List Cell} (hS:gq S) (hv: ∀r∈out,r.2=val r.1) (hm: ∀z,z∈out.map Prod.fst↔z∈S) (hn:(out.map Prod.fst).Nodup)
  (hp:(out.map Prod.fst).Pairwise fun a b=> ¬ fY b a=true):out=S.map fun x=>(x,val x):=by
 have h1:=yd _ _ (lx _ hn hp) hS hm;rw [<-h1,List.map_map]
 have: ∀l:List (Cell×ae),(∀r∈l,r.2=val r.1)->l=l.map ((fun x=>(x,val x))∘Prod.fst):=fun l=>by
  induction l with
  | nil=>intro _;rfl
  | cons a r ih=>intro h;rw [List.map_cons,<-ih (fun r hr=>h r (by simp [hr]))];congr 1;exact Prod.ext rfl (h a (by simp))
 exact this out hv
end Go.Proofs.YtfgbpngakkhdcaaGreatDoor
