/- Strings as lists of bytes. -/
import Derived.Lib.Bytealg
set_option linter.all false
namespace Go.Proofs.YtnlndhjfmghajaaGreatDoor
abbrev Str:=List UInt8
set_option maxRecDepth 10000
set_option maxHeartbeats 4000000
def splitB (c:UInt8):List UInt8→List (List UInt8)
 | []=> [[]]
 | x::s=>if x=c then []::splitB c s else match splitB c s with
  | p::r=>(x::p)::r
  | []=> [[x]]
theorem splitB_ne (c:UInt8): ∀s,splitB c s≠ []
 | []=>by simp [splitB]
 | x::s=>by
  simp only [splitB]
  split
  ·simp
  ·split <;> simp
theorem splitB_no {c:UInt8}: ∀{s:List UInt8},c∉s→splitB c s= [s]
 | [],_=>rfl
 | x::s,h=>by
  simp only [List.mem_cons,not_or] at h
  simp only [splitB,if_neg (Ne.symm h.1),splitB_no h.2]
theorem splitB_app {c:UInt8}: ∀{a:List UInt8} (s:List UInt8),c∉a→splitB c (a++c::s)=a::splitB c s
 | [],s,_=>by simp [splitB]
 | x::a,s,h=>by
  simp only [List.mem_cons,not_or] at h
  simp only [List.cons_append,splitB,if_neg (Ne.symm h.1),splitB_app s h.2]
theorem splitB_pieces {c:UInt8}: ∀(s p:List UInt8),p∈splitB c s→c∉p∧p.length≤s.length
 | [],p,h=>by simp [splitB] at h;subst h;simp
 | x::s,p,h=>by
  simp only [splitB] at h
  split at h
  ·rcases List.mem_cons.1 h with h | h
   ·subst h;simp
   ·have:=splitB_pieces s p h
    exact ⟨this.1,by simp;omega⟩
  ·rename_i hx
   have ih:=splitB_pieces (c:=c) s
   have hne:=splitB_ne c s
   generalize splitB c s=l at*
   cases l with
   | nil=>exact absurd rfl hne
   | cons q r=>
    simp only at h
    rcases List.mem_cons.1 h with h | h
    ·subst h
     have:=ih q List.mem_cons_self
     simp only [List.mem_cons,not_or,List.length_cons]
     exact ⟨⟨Ne.symm hx,this.1⟩,by omega⟩
    ·have:=ih p (List.mem_cons_of_mem _ h)
     exact ⟨this.1,by simp;omega⟩
theorem splitB_length (c:UInt8): ∀s,(splitB c s).length≤s.length+1
 | []=>by simp [splitB]
 | x::s=>by
  have:=splitB_length c s
  simp only [splitB]
  split
  ·simp;omega
  ·split
   ·rename_i h;rw [h] at this;simp at this⊢;omega
   ·simp
theorem splitB_count (c:UInt8): ∀s:List UInt8,(splitB c s).length=s.count c+1
 | []=>by simp [splitB]
 | x::s=>by
  have:=splitB_count c s
  simp only [splitB]
  split
  ·rename_i h;subst h;simp [this]
  ·rename_i h
   rw [List.count_cons_of_ne h]
   split
   ·rename_i h;rw [h] at this;simp at this⊢;omega
   ·rename_i h;exact absurd h (splitB_ne c s)
theorem splitB_lines {c:UInt8}: ∀(l:List (List UInt8)),(∀p∈l,c∉p)→splitB c (l.flatMap fun p=>p++ [c])=l++ [[]]
 | [],_=>rfl
 | p::r,hp=>by
  rw [List.flatMap_cons,List.append_assoc,List.singleton_append,splitB_app _ (hp p List.mem_cons_self),splitB_lines r (fun x hx=>hp x (List.mem_cons_of_mem _ hx))]
  rfl
theorem cb_facts: ∀a b:Str,Op.bytesLess a b=decide (Lib.compareBytes a b= -1)∧(Lib.compareBytes a b=0↔a=b)∧(Lib.compareBytes a b= -1∨Lib.compareBytes a b=0∨Lib.compareBytes a b=1)
 | [], []=>by simp [Op.bytesLess,Lib.compareBytes]
 | [],_::_=>by simp [Op.bytesLess,Lib.compareBytes]
 | _::_, []=>by simp [Op.bytesLess,Lib.compareBytes]
 | a::x,b::y=>by
  obtain ⟨h1,h2,h3⟩:=cb_facts x y
  rw [Op.bytesLess]
  unfold Lib.compareBytes
  by_cases l1:a<b
  ·have hne:a≠b:=fun h=>by subst h;exact UInt8.lt_irrefl a l1
   simp [l1,hne]
  ·by_cases l2:b<a
   ·have hne:a≠b:=fun h=>by subst h;exact UInt8.lt_irrefl a l2
    simp [l1,l2,hne]
   ·have he:a=b:=by
     have n1: ¬ a.toNat<b.toNat:=fun h=>l1 (UInt8.lt_iff_toNat_lt.2 h)
     have n2: ¬ b.toNat<a.toNat:=fun h=>l2 (UInt8.lt_iff_toNat_lt.2 h)
     exact UInt8.toNat_inj.1 (by omega)
    subst he
    have h2':a::x=a::y↔x=y:=by simp
    rw [if_neg l1,if_neg l1,h2',←h2]
    refine ⟨?_,Iff.rfl,h3⟩
    simp [l1,h1]
theorem cb_eq (a b:Str):(a==b)=decide (Lib.compareBytes a b=0):=by
 rw [Bool.eq_iff_iff,beq_iff_eq,decide_eq_true_eq,(cb_facts a b).2.1]
theorem cb_swap: ∀a b:Str,Lib.compareBytes b a= - Lib.compareBytes a b
 | [], []=>by simp [Lib.compareBytes]
 | [],_::_=>by simp [Lib.compareBytes]
 | _::_, []=>by simp [Lib.compareBytes]
 | a::x,b::y=>by
  have ih:=cb_swap x y
  unfold Lib.compareBytes
  by_cases l1:a<b
  ·have l2: ¬ b<a:=UInt8.lt_asymm l1
   rw [if_pos l1,if_neg l2,if_pos l1];rfl
  ·by_cases l2:b<a
   ·rw [if_pos l2,if_neg l1,if_pos l2]
   ·rw [if_neg l1,if_neg l2,if_neg l1,if_neg l2,ih]
theorem cb_trans: ∀a b c:Str,Lib.compareBytes a b≤0→Lib.compareBytes b c≤0→Lib.compareBytes a c≤0∧(Lib.compareBytes a c=0→Lib.compareBytes a b=0∧Lib.compareBytes b c=0)
 | [], [], []=>by simp [Lib.compareBytes]
 | [], [],_::_=>by simp [Lib.compareBytes]
 | [],_::_, []=>by simp [Lib.compareBytes]
 | [],_::_,_::_=>by simp [Lib.compareBytes]
 | _::_, [],_=>by simp [Lib.compareBytes]
 | _::_,_::_, []=>by simp [Lib.compareBytes]
 | a::x,b::y,c::z=>by
  have ih:=cb_trans x y z
  unfold Lib.compareBytes
  simp only [UInt8.lt_iff_toNat_lt]
  intro h1 h2
  by_cases l1:a.toNat<b.toNat
  ·rw [if_pos l1] at h1⊢
   by_cases l2:b.toNat<c.toNat
   ·rw [if_pos (by omega)];exact ⟨by decide,fun h=>absurd h (by decide)⟩
   ·rw [if_neg l2] at h2
    by_cases l3:c.toNat<b.toNat
    ·rw [if_pos l3] at h2;exact absurd h2 (by decide)
    ·rw [if_pos (by omega)];exact ⟨by decide,fun h=>absurd h (by decide)⟩
  ·rw [if_neg l1] at h1⊢
   by_cases l3:b.toNat<a.toNat
   ·rw [if_pos l3] at h1;exact absurd h1 (by decide)
   ·rw [if_neg l3] at h1⊢
    by_cases l2:b.toNat<c.toNat
    ·rw [if_pos (by omega)];exact ⟨by decide,fun h=>absurd h (by decide)⟩
    ·rw [if_neg l2] at h2⊢
     by_cases l4:c.toNat<b.toNat
     ·rw [if_pos l4] at h2;exact absurd h2 (by decide)
     ·rw [if_neg l4] at h2⊢
      rw [if_neg (by omega),if_neg (by omega)]
      exact ih h1 h2
theorem cb_one (a b:Str):Lib.compareBytes a b= -1∨Lib.compareBytes a b=0∨Lib.compareBytes a b=1:=(cb_facts a b).2.2
theorem cb_zero {a b:Str} (h:Lib.compareBytes a b=0):a=b:=(cb_facts a b).2.1.1 h
theorem cb_self (a:Str):Lib.compareBytes a a=0:=(cb_facts a a).2.1.2 rfl
def trimL (s:Str):Str:=s.dropWhile (· ==32)
def trimR:Str→Str
 | []=> []
 | x::s=>match trimR s with
  | []=>if x=32 then [] else [x]
  | y::t=>x::y::t
def trimB (s:Str):Str:=trimL (trimR s)
theorem trimR_snoc: ∀s:Str,trimR (s++ [32])=trimR s
 | []=>rfl
 | x::s=>by simp only [List.cons_append,trimR,trimR_snoc s]
theorem trimR_keep {c:UInt8} (h:c≠32): ∀s:Str,trimR (s++ [c])=s++ [c]
 | []=>by simp [trimR,h]
 | x::s=>by
  simp only [List.cons_append,trimR,trimR_keep h s]
  cases s <;> rfl
theorem trimL_hit (s:Str):trimL (32::s)=trimL s:=by simp [trimL]
theorem trimL_keep {c:UInt8} (h:c≠32) (s:Str):trimL (c::s)=c::s:=by
 have:(c==32)=false:=by simpa using h
 simp [trimL,this]
theorem trim_swap: ∀s:Str,trimR (trimL s)=trimL (trimR s)
 | []=>rfl
 | x::s=>by
  have ih:=trim_swap s
  by_cases h:x=32
  ·subst h
   rw [trimL_hit,ih]
   simp only [trimR]
   cases trimR s with
   | nil=>rfl
   | cons y t=>rw [trimL_hit]
  ·rw [trimL_keep h]
   simp only [trimR]
   cases trimR s with
   | nil=>rw [if_neg h,trimL_keep h]
   | cons y t=>rw [trimL_keep h]
theorem trimR_len: ∀s:Str,(trimR s).length≤s.length
 | []=>Nat.le_refl _
 | x::s=>by
  have ih:=trimR_len s
  simp only [trimR]
  cases h:trimR s with
  | nil=>
   simp only
   split <;> simp
  | cons y t=>
   rw [h] at ih
   simp only [List.length_cons] at ih⊢
   omega
theorem trimL_len (s:Str):(trimL s).length≤s.length:=(List.dropWhile_sublist _).length_le
theorem trimB_len (s:Str):(trimB s).length≤s.length:=Nat.le_trans (trimL_len _) (trimR_len _)
theorem trimL_sub {s:Str} {c:UInt8} (h:c∈trimL s):c∈s:=(List.dropWhile_sublist _).subset h
theorem trimR_sub: ∀{s:Str} {c:UInt8},c∈trimR s→c∈s
 | x::s,c,h=>by
  simp only [trimR] at h
  cases hs:trimR s with
  | nil=>
   rw [hs] at h
   simp only at h
   split at h
   ·cases h
   ·rw [List.mem_singleton] at h;subst h;exact List.mem_cons_self
  | cons y t=>
   rw [hs] at h
   rcases List.mem_cons.1 h with h | h
   ·subst h;exact List.mem_cons_self
   ·exact List.mem_cons_of_mem _ (trimR_sub (hs▸h))
theorem trimB_sub {s:Str} {c:UInt8} (h:c∈trimB s):c∈s:=trimR_sub (trimL_sub h)
theorem trimL_head {s:Str} {c:UInt8} {t:Str} (h:trimL s=c::t):c≠32:=by
 unfold trimL at h
 have:=List.head?_dropWhile_not (· ==(32:UInt8)) s
 rw [h] at this
 simpa using this
theorem trimR_last: ∀{s:Str} {c:UInt8},(trimR s).getLast?=some c→c≠32
 | x::s,c,h=>by
  simp only [trimR] at h
  cases hs:trimR s with
  | nil=>
   rw [hs] at h
   simp only at h
   split at h
   ·cases h
   ·rename_i hx
    simp at h;subst h;exact hx
  | cons y t=>
   rw [hs] at h
   have ih:=trimR_last (s:=s) (c:=c)
   rw [hs] at ih
   exact ih (by rw [←h];simp [List.getLast?_cons])
theorem trimB_head {s:Str} {c:UInt8} {t:Str} (h:trimB s=c::t):c≠32:=trimL_head h
theorem trimB_last {s:Str} {c:UInt8} (h:(trimB s).getLast?=some c):c≠32:=by
 unfold trimB at h
 rw [←trim_swap] at h
 exact trimR_last h
theorem trimR_id: ∀{s:Str},(∀c,s.getLast?=some c→c≠32)→trimR s=s
 | [],_=>rfl
 | x::s,h=>by
  cases s with
  | nil=>
   have:=h x rfl
   simp [trimR,this]
  | cons y t=>
   have ih:=trimR_id (s:=y::t) fun c hc=>h c (by rw [←hc];simp [List.getLast?_cons])
   rw [trimR,ih]
theorem trimL_id {s:Str} (h: ∀c t,s=c::t→c≠32):trimL s=s:=by
 cases s with
 | nil=>rfl
 | cons x t=>exact trimL_keep (h x t rfl) t
theorem trimB_id {s:Str} (h1: ∀c t,s=c::t→c≠32) (h2: ∀c,s.getLast?=some c→c≠32):trimB s=s:=by
 unfold trimB;rw [trimR_id h2,trimL_id h1]
theorem trimB_trimB (s:Str):trimB (trimB s)=trimB s:=trimB_id (fun _ _ h=>trimB_head h) (fun _ h=>trimB_last h)
theorem trimL_blanks (n:Nat) (s:Str):trimL (List.replicate n 32++s)=trimL s:=by
 induction n with
 | zero=>rfl
 | succ n ih=>rw [List.replicate_succ,List.cons_append,trimL_hit,ih]
theorem trimR_blanks (n:Nat) (s:Str):trimR (s++List.replicate n 32)=trimR s:=by
 induction n with
 | zero=>simp
 | succ n ih=>rw [List.replicate_succ',←List.append_assoc,trimR_snoc,ih]
def partsP (t:Str):List Str:=((splitB 59 t).map trimB).filter fun s=>decide (s≠ [])
theorem partsP_cut {p r:Str} (h:(59:UInt8)∉p):partsP (p++59::r)=(if trimB p= [] then [] else [trimB p])++partsP r:=by
 unfold partsP
 rw [splitB_app _ h,List.map_cons,List.filter_cons]
 by_cases he:trimB p= []
 ·simp [he]
 ·simp [he]
theorem partsP_end {p:Str} (h:(59:UInt8)∉p):partsP p=if trimB p= [] then [] else [trimB p]:=by
 unfold partsP
 rw [splitB_no h]
 by_cases he:trimB p= []
 ·simp [he]
 ·simp [he]
theorem partsP_mem {t s:Str} (h:s∈partsP t):s≠ []∧(59:UInt8)∉s∧trimB s=s∧s.length≤t.length:=by
 unfold partsP at h
 rw [List.mem_filter] at h
 obtain ⟨h1,h2⟩:=h
 obtain ⟨p,hp,rfl⟩:=List.mem_map.1 h1
 obtain ⟨h3,h4⟩:=splitB_pieces _ _ hp
 exact ⟨by simpa using h2,fun hm=>h3 (trimB_sub hm),trimB_trimB p,Nat.le_trans (trimB_len p) h4⟩
theorem partsP_len (t:Str):(partsP t).length≤t.length+1:=by
 unfold partsP
 refine Nat.le_trans (List.length_filter_le _ _) ?_
 rw [List.length_map]
 exact splitB_length 59 t
theorem parts_step {t:Str} {f i:Nat} (hf:f≤i) (hi:i≤t.length) (hn:(59:UInt8)∉(t.take i).drop f) (he: ∀h:i<t.length,t[i]=59):partsP (t.drop f)=(if trimB ((t.take i).drop f)= [] then [] else [trimB ((t.take i).drop f)])++partsP (t.drop (i+1)):=by
 by_cases h:i<t.length
 ·have e:t.drop f=(t.take i).drop f++59::t.drop (i+1):=by
   have h1:t.drop f=(t.take i++t.drop i).drop f:=by rw [List.take_append_drop]
   rw [h1,List.drop_append_of_le_length (by simp;omega),List.drop_eq_getElem_cons h,he h]
  rw [e,partsP_cut hn]
 ·obtain rfl:i=t.length:=by omega
  rw [List.take_length] at hn⊢
  have e:t.drop (t.length+1)= []:=List.drop_eq_nil_of_le (by omega)
  rw [partsP_end hn,e]
  simp [partsP,splitB,trimB,trimR,trimL]
theorem nope_step {t:Str} {f i:Nat} (hf:f≤i) (h:i<t.length) (hn:(59:UInt8)∉(t.take i).drop f) (he:t[i]≠59):(59:UInt8)∉(t.take (i+1)).drop f:=by
 rw [List.take_succ_eq_append_getElem h,List.drop_append_of_le_length (by simp;omega),List.mem_append,List.mem_singleton]
 rintro (h' | h')
 ·exact hn h'
 ·exact he h'.symm
theorem partsP_one {s:Str} (h1:s≠ []) (h2:(59:UInt8)∉s) (h3:trimB s=s):partsP s= [s]:=by
 rw [partsP_end h2,h3,if_neg h1]
def joinP:List Str→Str
 | []=> []
 | [s]=>s
 | s::r=>s++ [32,59,32,32]++joinP r
theorem partsP_pre (r:Str):partsP (32::32::r)=partsP r:=by
 unfold partsP
 have h: ∀r:Str,((splitB 59 (32::r)).map trimB).filter (fun s=>decide (s≠ []))=((splitB 59 r).map trimB).filter fun s=>decide (s≠ []):=fun r=>by
  have hne:=splitB_ne 59 r
  simp only [splitB]
  rw [if_neg (by decide)]
  cases hs:splitB 59 r with
  | nil=>exact absurd hs hne
  | cons p q=>
   have:trimB (32::p)=trimB p:=by
    unfold trimB
    rw [←trim_swap,trimL_hit,trim_swap]
   simp only [List.map_cons,this]
 rw [h,h]
theorem partsP_join: ∀{l:List Str},(∀s∈l,s≠ []∧(59:UInt8)∉s∧trimB s=s)→partsP (joinP l)=l
 | [],_=>by decide
 | [s],h=>by
  obtain ⟨h1,h2,h3⟩:=h s List.mem_cons_self
  exact partsP_one h1 h2 h3
 | s::s2::r,h=>by
  obtain ⟨h1,h2,h3⟩:=h s List.mem_cons_self
  have ih:=partsP_join (l:=s2::r) fun x hx=>h x (List.mem_cons_of_mem _ hx)
  have e:joinP (s::s2::r)=(s++ [32])++59::(32::32::joinP (s2::r)):=by simp [joinP]
  have h4:(59:UInt8)∉s++ [32]:=by
   rw [List.mem_append,List.mem_singleton]
   rintro (h | h)
   ·exact h2 h
   ·exact absurd h (by decide)
  have h5:trimB (s++ [32])=s:=by
   have:trimB (s++ [32])=trimB s:=by unfold trimB;rw [trimR_snoc]
   rw [this,h3]
  rw [e,partsP_cut h4,h5,if_neg h1,partsP_pre,ih];rfl
def lowB (c:UInt8):Option UInt8:=if 65≤c.toNat∧c.toNat≤90 then some (c+32) else if (97≤c.toNat∧c.toNat≤122)∨(48≤c.toNat∧c.toNat≤57) then some c else none
def keyP (t:Str):Str:=t.filterMap lowB
theorem lowB_facts: ∀c d:UInt8,lowB c=some d→((97≤d.toNat∧d.toNat≤122)∨(48≤d.toNat∧d.toNat≤57))∧lowB d=some d:=by
 intro c d h
 unfold lowB at h
 split at h
 ·rename_i hc
  cases h
  have e:(c+32).toNat=c.toNat+32:=by
   rw [UInt8.toNat_add]
   show (c.toNat+32)%256=_
   omega
  have h1:97≤(c+32).toNat∧(c+32).toNat≤122:=by omega
  refine ⟨.inl h1,?_⟩
  unfold lowB
  rw [if_neg (by omega),if_pos (.inl h1)]
 ·rename_i hc
  split at h
  ·rename_i hd
   cases h
   refine ⟨hd,?_⟩
   unfold lowB
   rw [if_neg hc,if_pos hd]
  ·cases h
theorem keyP_mem {t:Str} {d:UInt8} (h:d∈keyP t):(97≤d.toNat∧d.toNat≤122)∨(48≤d.toNat∧d.toNat≤57):=by
 obtain ⟨c,_,hc⟩:=List.mem_filterMap.1 h
 exact (lowB_facts c d hc).1
theorem keyP_id: ∀{k:Str},(∀d∈k,lowB d=some d)→keyP k=k
 | [],_=>rfl
 | d::k,h=>by
  have:=keyP_id (k:=k) fun x hx=>h x (List.mem_cons_of_mem _ hx)
  unfold keyP at this⊢
  rw [List.filterMap_cons,h d List.mem_cons_self,this]
theorem keyP_keyP (t:Str):keyP (keyP t)=keyP t:=keyP_id fun d hd=>by
 obtain ⟨c,_,hc⟩:=List.mem_filterMap.1 hd
 exact (lowB_facts c d hc).2
theorem keyP_len (t:Str):(keyP t).length≤t.length:=List.length_filterMap_le _ _
theorem keyP_snoc (t:Str) (c:UInt8):keyP (t++ [c])=keyP t++(lowB c).toList:=by
 unfold keyP
 rw [List.filterMap_append,List.filterMap_cons,List.filterMap_nil]
 cases lowB c <;> rfl
theorem keyP_app (a b:Str):keyP (a++b)=keyP a++keyP b:=List.filterMap_append
def upB (c:UInt8):UInt8:=if 97≤c.toNat∧c.toNat≤122 then c-32 else c
theorem lowB_up (c:UInt8):lowB (upB c)=lowB c:=by
 unfold upB
 split
 ·rename_i h
  have e:(c-32).toNat=c.toNat-32:=by
   rw [UInt8.toNat_sub]
   show (256-32+c.toNat)%256=_
   omega
  have e2:c-32+32=c:=by
   apply UInt8.toNat_inj.1
   rw [UInt8.toNat_add,e]
   show (c.toNat-32+32)%256=_
   omega
  unfold lowB
  rw [if_pos (by omega),if_neg (by omega),if_pos (.inl h),e2]
 ·rfl
theorem keyP_up (t:Str):keyP (t.map upB)=keyP t:=by
 unfold keyP
 rw [List.filterMap_map]
 congr 1
 funext c
 exact lowB_up c
def cmpH (k:Int) (s:Str) (l:Int) (t:Str):Int:=if k<l then -1 else if l<k then 1 else if Lib.compareBytes (keyP s) (keyP t)=0 then Lib.compareBytes s t else Lib.compareBytes (keyP s) (keyP t)
theorem cmpH_self (k:Int) (s:Str):cmpH k s k s=0:=by
 unfold cmpH
 rw [if_neg (by omega),if_neg (by omega),if_pos (cb_self _),cb_self]
theorem cmpH_zero {k l:Int} {s t:Str} (h:cmpH k s l t=0):k=l∧s=t:=by
 unfold cmpH at h
 split at h
 ·omega
 ·split at h
  ·omega
  ·split at h
   ·exact ⟨by omega,cb_zero h⟩
   ·contradiction
theorem cmpH_one (k:Int) (s:Str) (l:Int) (t:Str):cmpH k s l t= -1∨cmpH k s l t=0∨cmpH k s l t=1:=by
 unfold cmpH
 split
 ·exact .inl rfl
 ·split
  ·exact .inr (.inr rfl)
  ·split
   ·exact cb_one _ _
   ·exact cb_one _ _
theorem cmpH_swap (k:Int) (s:Str) (l:Int) (t:Str):cmpH l t k s= - cmpH k s l t:=by
 unfold cmpH
 rw [cb_swap (keyP s) (keyP t),cb_swap s t]
 by_cases h1:k<l
 ·rw [if_neg (by omega),if_pos h1,if_pos h1];rfl
 ·by_cases h2:l<k
  ·rw [if_pos h2,if_neg h1,if_pos h2]
  ·rw [if_neg h2,if_neg h1,if_neg h1,if_neg h2]
   by_cases h3:Lib.compareBytes (keyP s) (keyP t)=0
   ·rw [if_pos h3,if_pos (by omega)]
   ·rw [if_neg h3,if_neg (by omega)]
theorem cmpH_le {k:Int} {s:Str} {l:Int} {t:Str}:cmpH k s l t<0↔k<l∨k=l∧(Lib.compareBytes (keyP s) (keyP t)<0∨keyP s=keyP t∧Lib.compareBytes s t<0):=by
 unfold cmpH
 by_cases h1:k<l
 ·simp [h1]
 ·rw [if_neg h1]
  by_cases h2:l<k
  ·rw [if_pos h2]
   constructor
   ·intro h;omega
   ·rintro (h | ⟨h,_⟩) <;> omega
  ·rw [if_neg h2]
   by_cases h3:Lib.compareBytes (keyP s) (keyP t)=0
   ·rw [if_pos h3]
    have:=cb_zero h3
    constructor
    ·intro h;exact .inr ⟨by omega,.inr ⟨this,h⟩⟩
    ·rintro (h | ⟨_,h | ⟨_,h⟩⟩)
     ·omega
     ·omega
     ·exact h
   ·rw [if_neg h3]
    constructor
    ·intro h;exact .inr ⟨by omega,.inl h⟩
    ·rintro (h | ⟨_,h | ⟨h,_⟩⟩)
     ·omega
     ·exact h
     ·rw [h,cb_self] at h3;exact absurd rfl h3
theorem cb_lt_trans {a b c:Str} (h1:Lib.compareBytes a b<0) (h2:Lib.compareBytes b c<0):Lib.compareBytes a c<0:=by
 obtain ⟨h3,h4⟩:=cb_trans a b c (by omega) (by omega)
 rcases Int.lt_or_eq_of_le h3 with h | h
 ·exact h
 ·have:=h4 h;omega
theorem cmpH_trans {k:Int} {s:Str} {l:Int} {t:Str} {m:Int} {u:Str} (h1:cmpH k s l t<0) (h2:cmpH l t m u<0):cmpH k s m u<0:=by
 rw [cmpH_le] at*
 rcases h1 with h1 | ⟨h1,h3⟩
 ·rcases h2 with h2 | ⟨h2,_⟩ <;> exact .inl (by omega)
 ·rcases h2 with h2 | ⟨h2,h4⟩
  ·exact .inl (by omega)
  ·refine .inr ⟨by omega,?_⟩
   rcases h3 with h3 | ⟨h3,h5⟩
   ·rcases h4 with h4 | ⟨h4,_⟩
    ·exact .inl (cb_lt_trans h3 h4)
    ·rw [h4] at h3;exact .inl h3
   ·rcases h4 with h4 | ⟨h4,h6⟩
    ·rw [h3];exact .inl h4
    ·exact .inr ⟨h3.trans h4,cb_lt_trans h5 h6⟩
structure Hg where
 kind:Int
 text:Str
 units:List Int
 un:Option Bool
 uz:Nat
def unitsGo:List Int→List Int→Bool
 | _, []=>true
 | seen,u::r=>if u<1∨1073741824<u∨u∈seen then false else unitsGo (seen++ [u]) r
def validH (h:Hg):Bool:=decide (1≤h.kind∧h.kind≤3∧h.text.length≤4096∧1≤h.units.length∧h.units.length≤1024)&&decide (partsP h.text= [h.text])&&unitsGo [] h.units
def befH (p:Option Hg) (h:Hg):Bool:=match p with
 | none=>true
 | some p=>decide (cmpH p.kind p.text h.kind h.text<0)
def checkGo:Option Hg→List Hg→Int
 | _, []=>0
 | p,h::r=>if validH h=false then 1 else if befH p h=false then 5 else checkGo (some h) r
def checkP (l:List Hg):Int:=if 1024<l.length then 8 else checkGo none l
def isH (k:Int) (t:Str) (h:Hg):Bool:=decide (h.kind=k)&&decide (h.text=t)
def findGo (k:Int) (t:Str):List Hg→Nat→Int
 | [],_=> -1
 | h::r,i=>if isH k t h=true then (i:Int) else findGo k t r (i+1)
def findH (l:List Hg) (k:Int) (t:Str):Int:=if checkP l=0 then findGo k t l 0 else -1
def inH (k:Int) (t:Str) (h:Hg):Bool:=decide (h.kind=k)&&(keyP t).isPrefixOf (keyP h.text)
def underGo (q:Hg→Bool):List Hg→Nat→Nat→Nat→Nat×Nat
 | [],_,f,n=>(f,n)
 | h::r,i,f,n=>if q h=true then underGo q r (i+1) (if n=0 then i else f) (n+1) else underGo q r (i+1) f n
def underH (l:List Hg) (k:Int) (t:Str):Nat×Nat:=if checkP l=0 then underGo (inH k t) l 0 0 0 else (0,0)
def IncH (l:List Hg):Prop:=l.Pairwise fun a b=>cmpH a.kind a.text b.kind b.text<0
theorem checkGo_inc: ∀{l:List Hg} {p:Option Hg},checkGo p l=0→IncH l∧(∀a,p=some a→ ∀b∈l,cmpH a.kind a.text b.kind b.text<0)∧ ∀b∈l,validH b=true
 | [],p,_=>⟨List.Pairwise.nil,(fun _ _ _ h=>by cases h),(fun _ h=>by cases h)⟩
 | h::r,p,hc=>by
  simp only [checkGo] at hc
  split at hc
  ·omega
  ·rename_i hv
   split at hc
   ·omega
   ·rename_i hb
    obtain ⟨h1,h2,h3⟩:=checkGo_inc hc
    have h2:=h2 h rfl
    refine ⟨List.Pairwise.cons h2 h1,fun a ha b hb'=> ?_,fun b hb'=> ?_⟩
    ·subst ha
     have h4:cmpH a.kind a.text h.kind h.text<0:=by simpa [befH] using hb
     rcases List.mem_cons.1 hb' with rfl | hb'
     ·exact h4
     ·exact cmpH_trans h4 (h2 b hb')
    ·rcases List.mem_cons.1 hb' with rfl | hb'
     ·simpa using hv
     ·exact h3 b hb'
theorem checkP_inc {l:List Hg} (h:checkP l=0):IncH l∧(∀b∈l,validH b=true)∧l.length≤1024:=by
 unfold checkP at h
 split at h
 ·omega
 ·obtain ⟨h1,_,h3⟩:=checkGo_inc h
  exact ⟨h1,h3,by omega⟩
theorem prefix_between: ∀(p a b c:Str),p.isPrefixOf a=true→p.isPrefixOf c=true→Lib.compareBytes a b≤0→Lib.compareBytes b c≤0→p.isPrefixOf b=true
 | [],_,_,_,_,_,_,_=>rfl
 | x::p,a,b,c,ha,hc,h1,h2=>by
  cases a with
  | nil=>simp [List.isPrefixOf] at ha
  | cons y a=>
   cases c with
   | nil=>simp [List.isPrefixOf] at hc
   | cons z c=>
    simp only [List.isPrefixOf,Bool.and_eq_true,beq_iff_eq] at ha hc
    obtain ⟨rfl,ha⟩:=ha
    obtain ⟨rfl,hc⟩:=hc
    cases b with
    | nil=>simp [Lib.compareBytes] at h1
    | cons w b=>
     unfold Lib.compareBytes at h1 h2
     have e:x=w:=by
      apply UInt8.toNat_inj.1
      simp only [UInt8.lt_iff_toNat_lt] at h1 h2
      rcases Nat.lt_trichotomy x.toNat w.toNat with h | h | h
      ·rw [if_neg (by omega),if_pos h] at h2;omega
      ·exact h
      ·rw [if_neg (by omega),if_pos h] at h1;omega
     subst e
     rw [if_neg (UInt8.lt_irrefl _),if_neg (UInt8.lt_irrefl _)] at h1 h2
     simp only [List.isPrefixOf,Bool.and_eq_true,beq_self_eq_true,true_and]
     exact prefix_between p a b c ha hc h1 h2
theorem key_le {k:Int} {s:Str} {l:Int} {t:Str} (h:cmpH k s l t<0):k<l∨k=l∧Lib.compareBytes (keyP s) (keyP t)≤0:=by
 rw [cmpH_le] at h
 rcases h with h | ⟨h,h2 | ⟨h2,_⟩⟩
 ·exact .inl h
 ·exact .inr ⟨h,by omega⟩
 ·exact .inr ⟨h,by rw [h2,cb_self];omega⟩
theorem inH_between {k:Int} {t:Str} {a b c:Hg} (ha:inH k t a=true) (hc:inH k t c=true) (h1:cmpH a.kind a.text b.kind b.text<0) (h2:cmpH b.kind b.text c.kind c.text<0):inH k t b=true:=by
 unfold inH at*
 simp only [Bool.and_eq_true,decide_eq_true_eq] at*
 obtain ⟨a1,a2⟩:=ha
 obtain ⟨c1,c2⟩:=hc
 have h1:=key_le h1
 have h2:=key_le h2
 have h3:b.kind=k:=by omega
 refine ⟨h3,prefix_between _ _ _ _ a2 c2 ?_ ?_⟩ <;> omega
theorem underGo_no (q:Hg→Bool): ∀(A l:List Hg) (i f n:Nat),(∀h∈A,q h=false)→underGo q (A++l) i f n=underGo q l (i+A.length) f n
 | [],l,i,f,n,_=>rfl
 | h::A,l,i,f,n,hA=>by
  simp only [List.cons_append,underGo,hA h List.mem_cons_self,Bool.false_eq_true,if_false]
  rw [underGo_no q A l _ _ _ fun x hx=>hA x (List.mem_cons_of_mem _ hx),List.length_cons]
  congr 1;omega
theorem underGo_yes (q:Hg→Bool): ∀(M l:List Hg) (i f n:Nat),(∀h∈M,q h=true)→0<n→underGo q (M++l) i f n=underGo q l (i+M.length) f (n+M.length)
 | [],l,i,f,n,_,_=>rfl
 | h::M,l,i,f,n,hM,hn=>by
  simp only [List.cons_append,underGo,hM h List.mem_cons_self,if_true]
  rw [if_neg (by omega),underGo_yes q M l _ _ _ (fun x hx=>hM x (List.mem_cons_of_mem _ hx)) (by omega),List.length_cons]
  congr 1 <;> omega
theorem three (q:Hg→Bool): ∀(l:List Hg),(∀i j k (hk:k<l.length) (hij:i<j) (hjk:j<k),q (l[i]'(by omega))=true→q l[k]=true→q (l[j]'(by omega))=true)→ ∃A M C,l=A++M++C∧(∀h∈A,q h=false)∧(∀h∈M,q h=true)∧(∀h∈C,q h=false)
 | [],_=>⟨[], [], [],rfl,(fun _ h=>by cases h),(fun _ h=>by cases h),(fun _ h=>by cases h)⟩
 | h::l,hq=>by
  obtain ⟨A,M,C,e,h1,h2,h3⟩:=three q l fun i j k hk hij hjk hi hk'=>hq (i+1) (j+1) (k+1) (by simp;omega) (by omega) (by omega) hi hk'
  cases hh:q h with
  | false=>
   refine ⟨h::A,M,C,by rw [e];rfl,fun x hx=> ?_,h2,h3⟩
   rcases List.mem_cons.1 hx with rfl | hx
   ·exact hh
   ·exact h1 x hx
  | true=>
   cases M with
   | nil=>
    refine ⟨[], [h],A++C,by rw [e];simp,(fun _ hx=>by cases hx),(fun x hx=>by rw [List.mem_singleton] at hx;rw [hx];exact hh),fun x hx=> ?_⟩
    rcases List.mem_append.1 hx with hx | hx
    ·exact h1 x hx
    ·exact h3 x hx
   | cons m M=>
    cases A with
    | nil=>
     refine ⟨[],h::m::M,C,by rw [e];rfl,(fun _ hx=>by cases hx),fun x hx=> ?_,h3⟩
     rcases List.mem_cons.1 hx with rfl | hx
     ·exact hh
     ·exact h2 x hx
    | cons a A=>
     exfalso
     have hm:=h2 m List.mem_cons_self
     have ha:=h1 a List.mem_cons_self
     have hlen:(h::l).length=(A.length+2)+(M.length+1+C.length):=by rw [e];simp;omega
     have e1:(h::l)[A.length+2]?=some m:=by
      rw [List.getElem?_cons_succ,e,List.append_assoc,List.getElem?_append_right (by simp)]
      simp
     have e2:(h::l)[1]?=some a:=by rw [e];rfl
     have:=hq 0 1 (A.length+2) (by rw [hlen];omega) (by omega) (by omega) hh (by
      rw [List.getElem?_eq_getElem (by rw [hlen];omega)] at e1
      rw [Option.some.inj e1];exact hm)
     rw [List.getElem?_eq_getElem (by rw [hlen];omega)] at e2
     rw [Option.some.inj e2,ha] at this
     cases this
theorem under_is {q:Hg→Bool} {l:List Hg} (hq: ∀i j k (hk:k<l.length) (hij:i<j) (hjk:j<k),q (l[i]'(by omega))=true→q l[k]=true→q (l[j]'(by omega))=true):
  (underGo q l 0 0 0).1+(underGo q l 0 0 0).2≤l.length∧((underGo q l 0 0 0).2=0→(underGo q l 0 0 0).1=0)∧ ∀i (hi:i<l.length),q l[i]=true↔(underGo q l 0 0 0).1≤i∧i<(underGo q l 0 0 0).1+(underGo q l 0 0 0).2:=by
 obtain ⟨A,M,C,e,h1,h2,h3⟩:=three q l hq
 have key:underGo q l 0 0 0=if M= [] then (0,0) else (A.length,M.length):=by
  rw [e,List.append_assoc,underGo_no q A _ _ _ _ h1]
  cases M with
  | nil=>
   have:=underGo_no q C [] (0+A.length) 0 0 h3
   rw [List.append_nil] at this
   rw [List.nil_append,this];rfl
  | cons m M=>
   rw [if_neg (by simp)]
   simp only [List.cons_append,underGo,h2 m List.mem_cons_self,if_true]
   rw [underGo_yes q M C _ _ _ (fun x hx=>h2 x (List.mem_cons_of_mem _ hx)) (by omega)]
   have:=underGo_no q C [] (0+A.length+1+M.length) (0+A.length) (0+1+M.length) h3
   rw [List.append_nil] at this
   rw [this]
   simp only [underGo,List.length_cons]
   congr 1 <;> omega
 rw [key]
 have hl:l.length=A.length+M.length+C.length:=by rw [e];simp;omega
 have hg: ∀i (hi:i<l.length),q l[i]=true↔A.length≤i∧i<A.length+M.length:=fun i hi=>by
  have hx:l[i]?=some l[i]:=List.getElem?_eq_getElem hi
  generalize l[i]=x at hx⊢
  rw [e,List.append_assoc] at hx
  by_cases c1:i<A.length
  ·rw [List.getElem?_append_left c1] at hx
   have:=h1 _ (List.mem_of_getElem? hx)
   constructor
   ·intro h;rw [this] at h;cases h
   ·intro h;omega
  ·rw [List.getElem?_append_right (by omega)] at hx
   by_cases c2:i-A.length<M.length
   ·rw [List.getElem?_append_left c2] at hx
    have:=h2 _ (List.mem_of_getElem? hx)
    exact ⟨fun _=>by omega,fun _=>this⟩
   ·rw [List.getElem?_append_right (by omega)] at hx
    have:=h3 _ (List.mem_of_getElem? hx)
    constructor
    ·intro h;rw [this] at h;cases h
    ·intro h;omega
 by_cases hM:M= []
 ·rw [if_pos hM]
  refine ⟨by simp,fun _=>rfl,fun i hi=> ?_⟩
  rw [hg i hi,hM];simp
  try (intro h;omega)
 ·rw [if_neg hM]
  have:0<M.length:=List.length_pos_iff.2 hM
  exact ⟨by simp only;omega,fun h=>by simp only at h;omega,hg⟩
theorem between_inc {l:List Hg} (h:IncH l) (k:Int) (t:Str): ∀i j k' (hk:k'<l.length) (hij:i<j) (hjk:j<k'),inH k t (l[i]'(by omega))=true→inH k t l[k']=true→inH k t (l[j]'(by omega))=true:=fun i j k' hk hij hjk ha hc=>
 inH_between ha hc (List.pairwise_iff_getElem.1 h i j (by omega) (by omega) hij) (List.pairwise_iff_getElem.1 h j k' (by omega) hk hjk)
theorem findGo_at {l:List Hg} (h:IncH l): ∀(i:Nat) (hi:i<l.length),findGo l[i].kind l[i].text l 0=(i:Int):=by
 have key: ∀(r:List Hg) (i o:Nat) (hi:i<r.length),IncH r→findGo r[i].kind r[i].text r o=((o+i:Nat):Int):=by
  intro r
  induction r with
  | nil=>intro i o hi;simp at hi
  | cons a r ih=>
   intro i o hi hr
   have hr2:IncH r:=(List.pairwise_cons.1 hr).2
   cases i with
   | zero=>simp [findGo,isH]
   | succ i=>
    have hi2:i<r.length:=by simp at hi;omega
    have hlt:=(List.pairwise_cons.1 hr).1 _ (List.getElem_mem hi2)
    have hne:isH (a::r)[i+1].kind (a::r)[i+1].text a=false:=by
     cases hb:isH (a::r)[i+1].kind (a::r)[i+1].text a with
     | false=>rfl
     | true=>
      exfalso
      unfold isH at hb
      simp only [List.getElem_cons_succ,Bool.and_eq_true,decide_eq_true_eq] at hb
      rw [hb.1,hb.2,cmpH_self] at hlt
      omega
    simp only [findGo,hne,Bool.false_eq_true,if_false]
    have:=ih i (o+1) hi2 hr2
    simp only [List.getElem_cons_succ]
    rw [this]
    congr 1;omega
 intro i hi
 have:=key l i 0 hi h
 rw [this];congr 1;omega
theorem keyP_take (t:Str) (n:Nat):(keyP (t.take n)).isPrefixOf (keyP t)=true:=by
 rw [List.isPrefixOf_iff_prefix]
 refine ⟨keyP (t.drop n),?_⟩
 rw [←keyP_app,List.take_append_drop]
def cmpR (k:Int) (s:Str) (l:Int) (t:Str):Int:=if k≠l then (if k<l then -1 else 1) else
 let u:=if keyP s=keyP t then (s,t) else (keyP s,keyP t)
 if Lib.compareBytes u.1 u.2= -1 then -1 else if Lib.compareBytes u.2 u.1= -1 then 1 else 0
theorem cmpR_same (k:Int) (s:Str) (l:Int) (t:Str):cmpR k s l t=cmpH k s l t:=by
 unfold cmpR cmpH
 by_cases h1:k<l
 ·rw [if_pos (by omega),if_pos h1,if_pos h1]
 ·rw [if_neg h1,if_neg h1]
  by_cases h2:l<k
  ·rw [if_pos (by omega),if_pos h2]
  ·rw [if_neg (by omega),if_neg h2]
   have key: ∀a b:Str,(if Lib.compareBytes a b= -1 then (-1:Int) else if Lib.compareBytes b a= -1 then 1 else 0)=Lib.compareBytes a b:=fun a b=>by
    have h3:=cb_one a b
    have h4:=cb_swap a b
    rcases h3 with h3 | h3 | h3 <;> simp [h3,h4]
   by_cases h3:keyP s=keyP t
   ·rw [if_pos h3,if_pos (show Lib.compareBytes (keyP s) (keyP t)=0 by rw [h3];exact cb_self _)]
    exact key s t
   ·rw [if_neg h3,if_neg (show¬ Lib.compareBytes (keyP s) (keyP t)=0 from fun h=>h3 (cb_zero h))]
    exact key _ _
end Go.Proofs.YtnlndhjfmghajaaGreatDoor
