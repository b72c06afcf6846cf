/- Strings as lists of bytes. -/
import Derived.Lib.Bytealg
open Bool renaming true->n
open Go.Lib renaming compareBytes->d
open List renaming mem_cons->i
open Prod renaming ext->m,fst->k
open _root_ renaming List->j,absurd->g,if_neg->e,if_pos->f
set_option linter.all false
namespace Go.Proofs.YtfgbpngakkhdcaaGreatDoor
abbrev ae:=j UInt8
theorem mB: ∀a b:ae,Op.bytesLess a b=decide (d a b= -1)/\(d a b=0↔a=b)/\(d a b= -1\/d a b=0\/d a b=1)
 | [], []=>by simp [Op.bytesLess,d]
 | [],_::_=>by simp [Op.bytesLess,d]
 | _::_, []=>by simp [Op.bytesLess,d]
 | a::x,b::y=>by
  obtain ⟨h1,h2,h3⟩:=mB x y;rw [Op.bytesLess];unfold d;by_cases l1:a<b
  ·have hne:a≠b:=fun h=>by subst h;exact UInt8.lt_irrefl a l1
   simp [l1,hne]
  ·by_cases l2:b<a
   ·have hne:a≠b:=fun h=>by subst h;exact UInt8.lt_irrefl a l2
    simp [l1,l2,hne]
   ·have he:a=b:=by have n1: ¬ a.toNat<b.toNat:=fun h=>l1 (UInt8.lt_iff_toNat_lt.2 h);have n2: ¬ b.toNat<a.toNat:=fun h=>l2 (UInt8.lt_iff_toNat_lt.2 h);exact UInt8.toNat_inj.1 (by omega)
    subst he;have ā:a::x=a::y↔x=y:=by simp
    rw [e l1,e l1,ā,<-h2];refine ⟨?_,Iff.rfl,h3⟩;simp [l1,h1]
theorem Ya (a b:ae):(a==b)=decide (d a b=0):=by rw [Bool.eq_iff_iff,beq_iff_eq,decide_eq_true_eq,(mB a b).2.1]
theorem IV: ∀a b:ae,d b a= - d a b
 | [], []=>by simp [d]
 | [],_::_=>by simp [d]
 | _::_, []=>by simp [d]
 | a::x,b::y=>by
  have ih:=IV x y;unfold d;by_cases l1:a<b
  ·have l2: ¬ b<a:=UInt8.lt_asymm l1;rw [f l1,e l2,f l1];rfl
  ·by_cases l2:b<a
   ·rw [f l2,e l1,f l2]
   ·rw [e l1,e l2,e l1,e l2,ih]
theorem FE: ∀a b c:ae,d a b<=0->d b c<=0->d a c<=0/\(d a c=0->d a b=0/\d b c=0)
 | [], [], []=>by simp [d]
 | [], [],_::_=>by simp [d]
 | [],_::_, []=>by simp [d]
 | [],_::_,_::_=>by simp [d]
 | _::_, [],_=>by simp [d]
 | _::_,_::_, []=>by simp [d]
 | a::x,b::y,c::z=>by
  have ih:=FE x y z;unfold d;simp only [UInt8.lt_iff_toNat_lt];intro h1 h2;by_cases l1:a.toNat<b.toNat
  ·rw [f l1] at h1⊢;by_cases l2:b.toNat<c.toNat
   ·rw [f (by omega)];exact ⟨by decide,fun h=>g h (by decide)⟩
   ·rw [e l2] at h2;by_cases l3:c.toNat<b.toNat
    ·rw [f l3] at h2;exact g h2 (by decide)
    ·rw [f (by omega)];exact ⟨by decide,fun h=>g h (by decide)⟩
  ·rw [e l1] at h1⊢;by_cases l3:b.toNat<a.toNat
   ·rw [f l3] at h1;exact g h1 (by decide)
   ·rw [e l3] at h1⊢;by_cases l2:b.toNat<c.toNat
    ·rw [f (by omega)];exact ⟨by decide,fun h=>g h (by decide)⟩
    ·rw [e l2] at h2⊢;by_cases l4:c.toNat<b.toNat
     ·rw [f l4] at h2;exact g h2 (by decide)
     ·rw [e l4] at h2⊢;rw [e (by omega),e (by omega)];exact ih h1 h2
theorem QV (a:ae):d a a=0:=(mB a a).2.1.2 rfl
abbrev Cell:=Int×Int
def eB (a b:Cell):Bool:=decide (a.1<b.1\/a.1=b.1/\a.2<b.2)
def iw:j Cell->Cell->j Cell
 | [],x=> [x]
 | y::r,x=>if eB y x=n then y::iw r x else if y=x then y::r else x::y::r
def ko:j Cell->Prop
 | []=>True
 | x::r=>(∀y∈r,eB x y=n)/\ko r
theorem gT {a b:Cell}:eB a b=n↔(a.1<b.1\/a.1=b.1/\a.2<b.2):=by simp [eB]
theorem gA {a b c:Cell} (h1:eB a b=n) (h2:eB b c=n):eB a c=true:=by rw [gT] at*;omega
theorem gN (a:Cell): ¬ eB a a=true:=by rw [gT];omega
theorem oe {a b:Cell} (h: ¬ eB a b=n) (hne:a≠b):eB b a=true:=by
 rw [gT] at*
 have: ¬ (a.1=b.1/\a.2=b.2):=fun h=>hne (m h.1 h.2);omega
theorem zI: ∀(l:j Cell) (x z:Cell),z∈iw l x↔z=x\/z∈l
 | [],x,z=>by simp [iw]
 | y::r,x,z=>by
  unfold iw;split
  ·rw [i,zI r x z,i];constructor
   ·rintro (h | h | h)
    ·exact .inr (.inl h)
    ·exact .inl h
    ·exact .inr (.inr h)
   ·rintro (h | h | h)
    ·exact .inr (.inl h)
    ·exact .inl h
    ·exact .inr (.inr h)
  ·split
   ·rename_i h;constructor
    ·exact fun h=> .inr h
    ·rintro (h' | h')
     ·rw [h',<-h];simp
     ·exact h'
   ·simp
theorem GG: ∀(l:j Cell) (x:Cell),ko l->ko (iw l x)
 | [],x,_=>⟨by simp,trivial⟩
 | y::r,x,h=>by
  unfold iw;split
  ·rename_i hb;refine ⟨fun z hz=> ?_,GG r x h.2⟩;rcases (zI r x z).1 hz with h1 | h1
   ·rw [h1];exact hb
   ·exact h.1 z h1
  ·rename_i hb;split
   ·exact h
   ·rename_i hne;have Ā:=oe hb hne;refine ⟨fun z hz=> ?_,h⟩;rcases List.mem_cons.1 hz with h1 | h1
    ·rw [h1];exact Ā
    ·exact gA Ā (h.1 z h1)
theorem zJ: ∀(a b:j Cell),ko a->ko b->(∀z,z∈a↔z∈b)->a=b
 | [], [],_,_,_=>rfl
 | [],y::b,_,_,h=>g ((h y).2 (by simp)) (by simp)
 | x::a, [],_,_,h=>g ((h x).1 (by simp)) (by simp)
 | x::a,y::b,ha,hb,h=>by
  have Ā:x=y:=by
   rcases List.mem_cons.1 ((h x).1 (by simp)) with h1 | h1
   ·exact h1
   ·rcases List.mem_cons.1 ((h y).2 (by simp)) with h2 | h2
    ·exact h2.symm
    ·have:=gA (ha.1 y h2) (hb.1 x h1);exact g this (gN x)
  subst Ā;congr 1;refine zJ a b ha.2 hb.2 fun z=> ?_;constructor
  ·intro hz;rcases List.mem_cons.1 ((h z).1 (by simp [hz])) with h1 | h1
   ·rw [h1] at hz;exact g (ha.1 x hz) (gN x)
   ·exact h1
  ·intro hz;rcases List.mem_cons.1 ((h z).2 (by simp [hz])) with h1 | h1
   ·rw [h1] at hz;exact g (hb.1 x hz) (gN x)
   ·exact h1
def lO (a b:Int):Int:=if a<b then -1 else if a=b then 0 else 1
def gS (a b:Cell):Int:=if lO a.1 b.1=0 then lO a.2 b.2 else lO a.1 b.1
theorem gm (a b:Cell):gS a b<0↔eB a b=true:=by
 rw [gT];unfold gS lO
 repeat' split
 all_goals omega
theorem Lu (a b:Cell):gS a b=0↔a=b:=by
 constructor
 ·intro h;unfold gS lO at h;apply m
  ·repeat' split at h
   all_goals omega
  ·repeat' split at h
   all_goals omega
 ·rintro rfl;simp [gS,lO]
theorem mr: ∀(l:j Cell),l.Nodup->l.Pairwise (fun a b=> ¬ eB b a=n)->ko l
 | [],_,_=>trivial
 | x::r,hn,hp=>by
  rw [List.nodup_cons] at hn;rw [List.pairwise_cons] at hp;refine ⟨fun y hy=> ?_,mr r hn.2 hp.2⟩;refine oe (hp.1 y hy) fun h=> ?_;rw [h] at hy;exact hn.1 hy
theorem u7: ∀(l K:j Cell) (z:Cell),z∈l.foldl iw K↔z∈l\/z∈K
 | [],K,z=>by simp
 | x::r,K,z=>by
  rw [List.foldl_cons,u7 r,zI,i];constructor
  ·rintro (h | h | h)
   ·exact .inl (.inr h)
   ·exact .inl (.inl h)
   ·exact .inr h
  ·rintro ((h | h) | h)
   ·exact .inr (.inl h)
   ·exact .inl h
   ·exact .inr (.inr h)
theorem u6: ∀(l K:j Cell),ko K->ko (l.foldl iw K)
 | [],_,h=>h
 | x::r,K,h=>u6 r _ (GG K x h)
theorem Ce {val:Cell->ae} {out:j (Cell×ae)} {S:j Cell} (hS:ko S) (hv: ∀r∈out,r.2=val r.1) (hm: ∀z,z∈out.map k↔z∈S) (hn:(out.map k).Nodup)
  (hp:(out.map k).Pairwise fun a b=> ¬ eB b a=n):out=S.map fun x=>(x,val x):=by
 have h1:=zJ _ _ (mr _ hn hp) hS hm;rw [<-h1,List.map_map]
 have: ∀l:j (Cell×ae),(∀r∈l,r.2=val r.1)->l=l.map ((fun x=>(x,val x))∘k):=fun l=>by
  induction l with
  | nil=>intro _;rfl
  | cons a r ih=>intro h;rw [List.map_cons,<-ih (fun r hr=>h r (by simp [hr]))];congr 1;exact m rfl (h a (by simp))
 exact this out hv
