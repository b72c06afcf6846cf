/-
 What expressions ask, and what they hang on. The plainer form of a region is sound: where its steps have an end, the machine's operations have it, too. The plainer form of a region is sound: where its steps have an end, the machine's operations have it, too. The plainer form of a region is sound: the operations one by one.
-/
import Derived.Test.YtfnkchadeaedlaaGreatDoorAmIr
set_option linter.all false
namespace Go.Am
theorem Ao: ∀{a b:List UInt8},Ec a b=true→a=b
 | [], [],_=>rfl
 | [],_::_,h=>by cases h
 | _::_, [],h=>by cases h
 | a::l,b::m,h=>by
  simp only [Ec,Bool.and_eq_true,beq_iff_eq] at h;rw [h.1,Ao h.2]
theorem Fv: ∀{a b:AV},Cy a b=true→a=b:=by
 intro a b h;unfold Cy at h;split at h
 ·simp only [Bool.and_eq_true,beq_iff_eq] at h;rw [h.1,h.2]
 ·rw [beq_iff_eq] at h;rw [h]
 ·rw [Ao h]
 ·rfl
 ·cases h
theorem b9: ∀{a b:E},aJ a b=true→a=b:=by
 intro a
 induction a <;> intro b h <;> cases b <;> simp only [aJ,Bool.and_eq_true,beq_iff_eq,Bool.false_eq_true] at h
 case cst.cst=>rw [Fv h]
 case var.var=>rw [h]
 case bin.bin ih1 ih2 _ _ _ _=>obtain ⟨⟨⟨rfl,rfl⟩,h1⟩,h2⟩:=h;rw [ih1 h1,ih2 h2]
 case un.un ih _ _=>obtain ⟨rfl,h1⟩:=h;rw [ih h1]
 case pick.pick ih1 ih2 ih3 _ _ _=>obtain ⟨⟨h1,h2⟩,h3⟩:=h;rw [ih1 h1,ih2 h2,ih3 h3]
 case guard.guard ih1 ih2 _ _ _=>obtain ⟨⟨h1,rfl⟩,h3⟩:=h;rw [ih1 h1,ih2 h3]
 case and.and ih1 ih2 _ _=>rw [ih1 h.1,ih2 h.2]
 case or.or ih1 ih2 _ _=>rw [ih1 h.1,ih2 h.2]
 case index.index ih1 ih2 _ _ _=>obtain ⟨⟨rfl,h1⟩,h2⟩:=h;rw [ih1 h1,ih2 h2]
 case field.field ih _ _ _=>obtain ⟨⟨rfl,h1⟩,rfl⟩:=h;rw [ih h1]
 case extract.extract ih _ _=>obtain ⟨h1,rfl⟩:=h;rw [ih h1]
 case conv.conv ih _ _ _=>obtain ⟨⟨rfl,rfl⟩,h1⟩:=h;rw [ih h1]
 case toInt.toInt ih _ _=>obtain ⟨rfl,h1⟩:=h;rw [ih h1]
 case len.len ih _ _=>obtain ⟨rfl,h1⟩:=h;rw [ih h1]
 case lenS.lenS ih _=>rw [ih h]
 case slA.slA ih _=>rw [ih h]
 case slL.slL ih1 ih2 _ _=>rw [ih1 h.1,ih2 h.2]
 case slH.slH ih1 ih2 _ _=>rw [ih1 h.1,ih2 h.2]
 case slB.slB ih1 ih2 ih3 _ _ _=>rw [ih1 h.1.1,ih2 h.1.2,ih3 h.2]
 case load.load ih _ _=>obtain ⟨rfl,h1⟩:=h;rw [ih h1]
 case faddr.faddr ih _ _ _=>obtain ⟨⟨rfl,h1⟩,rfl⟩:=h;rw [ih h1]
 case iaddr.iaddr ih1 ih2 _ _ _=>obtain ⟨⟨rfl,h1⟩,h2⟩:=h;rw [ih1 h1,ih2 h2]
 case nilck.nilck ih _=>rw [ih h]
theorem ee {o:Out} {v:AV} (h:ri o=some v):o=some (v,.none):=by
 unfold ri at h;split at h
 ·cases h;rfl
 ·cases h
theorem dH {x:Option AV} {f:AV→Option AV} {v:AV} (h:D9 x f=some v): ∃a,x=some a∧f a=some v:=by
 cases x with
 | none=>cases h
 | some a=>exact ⟨a,rfl,h⟩
theorem eF {x y:Option AV} {f:AV→AV→Option AV} {v:AV} (h:Jp x y f=some v): ∃a b,x=some a∧y=some b∧f a b=some v:=by
 cases x with
 | none=>cases h
 | some a=>cases y with
  | none=>cases h
  | some b=>exact ⟨a,b,rfl,rfl,h⟩
theorem mv {x y z:Option AV} {f:AV→AV→AV→Option AV} {v:AV} (h:Qy x y z f=some v): ∃a b d,x=some a∧y=some b∧z=some d∧f a b d=some v:=by
 cases x with
 | none=>cases h
 | some a=>cases y with
  | none=>cases h
  | some b=>cases z with
   | none=>cases h
   | some d=>exact ⟨a,b,d,rfl,rfl,rfl,h⟩
theorem gI {g e:Option AV} {w:Bool} {v:AV} (h:lp g w e=some v):(g=some (.bool w)∧e=some v)∨(g=some (.bool (!w))∧v= .aO [])∨(∃l,g=some (.aO l))∧v= .aO []:=by
 unfold lp at h;split at h
 ·rename_i b;split at h
  ·rename_i hb;rw [beq_iff_eq] at hb;subst hb;exact .inl ⟨rfl,h⟩
  ·rename_i hb;cases h;refine .inr (.inl ⟨?_,rfl⟩);cases b <;> cases w <;> simp_all
 ·cases h;exact .inr (.inr ⟨⟨_,rfl⟩,rfl⟩)
 ·cases h
theorem fm (w:Bool) (e:Option AV):lp (some (.bool w)) w e=e:=by simp [lp]
theorem rn (w:Bool) (e:Option AV):lp (some (.bool (!w))) w e=some (.aO []):=by cases w <;> rfl
theorem lu (w:Bool) (l:List AV) (e:Option AV):lp (some (.aO l)) w e=some (.aO []):=rfl
theorem kC {p b:Option AV} {v:AV} (h:Fp p b=some v):(p=some (.bool true)∧b=some v)∨(p=some (.bool false)∧v= .bool false):=by
 unfold Fp at h;split at h
 ·exact .inl ⟨rfl,h⟩
 ·cases h;exact .inr ⟨rfl,rfl⟩
 ·cases h
theorem mw {p b:Option AV} {v:AV} (h:Of p b=some v):(p=some (.bool false)∧b=some v)∨(p=some (.bool true)∧v= .bool true):=by
 unfold Of at h;split at h
 ·cases h;exact .inr ⟨rfl,rfl⟩
 ·exact .inl ⟨rfl,h⟩
 ·cases h
section
variable {c:ax} {env:List (Option AV)}
theorem uJ {bs bs':List ab}: ∀{e:E},e.reads=false→bq c env bs e=bq c env bs' e:=by
 intro e
 induction e <;> intro h <;> simp only [E.reads,Bool.or_eq_false_iff,Bool.true_eq_false] at h <;> simp only [bq]
 case bin ih1 ih2=>rw [ih1 h.1,ih2 h.2]
 case un ih=>rw [ih h]
 case pick ih1 ih2 ih3=>rw [ih1 h.1.1,ih2 h.1.2,ih3 h.2]
 case guard ih1 ih2=>rw [ih1 h.1,ih2 h.2]
 case and ih1 ih2=>rw [ih1 h.1,ih2 h.2]
 case or ih1 ih2=>rw [ih1 h.1,ih2 h.2]
 case index ih1 ih2=>rw [ih1 h.1,ih2 h.2]
 case field ih=>rw [ih h]
 case extract ih=>rw [ih h]
 case toInt ih=>rw [ih h]
 case lenS ih=>rw [ih h]
 case slA ih=>rw [ih h]
 case slL ih1 ih2=>rw [ih1 h.1,ih2 h.2]
 case slH ih1 ih2=>rw [ih1 h.1,ih2 h.2]
 case slB ih1 ih2 ih3=>rw [ih1 h.1.1,ih2 h.1.2,ih3 h.2]
 case nilck ih=>rw [ih h]
theorem yB {bs:List ab} {k:Nat} {x:Option AV}: ∀{e:E},e.looks k=false→bq c (env.set k x) bs e=bq c env bs e:=by
 intro e
 induction e <;> intro h <;> simp only [E.looks,Bool.or_eq_false_iff,beq_eq_false_iff_ne,ne_eq] at h <;> simp only [bq]
 case var i=>simp only [kA,List.getD_eq_getElem?_getD,List.getElem?_set_ne h]
 case bin ih1 ih2=>rw [ih1 h.1,ih2 h.2]
 case un ih=>rw [ih h]
 case pick ih1 ih2 ih3=>rw [ih1 h.1.1,ih2 h.1.2,ih3 h.2]
 case guard ih1 ih2=>rw [ih1 h.1,ih2 h.2]
 case and ih1 ih2=>rw [ih1 h.1,ih2 h.2]
 case or ih1 ih2=>rw [ih1 h.1,ih2 h.2]
 case index ih1 ih2=>rw [ih1 h.1,ih2 h.2]
 case field ih=>rw [ih h]
 case extract ih=>rw [ih h]
 case conv ih=>rw [ih h]
 case toInt ih=>rw [ih h]
 case len ih=>rw [ih h]
 case lenS ih=>rw [ih h]
 case slA ih=>rw [ih h]
 case slL ih1 ih2=>rw [ih1 h.1,ih2 h.2]
 case slH ih1 ih2=>rw [ih1 h.1,ih2 h.2]
 case slB ih1 ih2 ih3=>rw [ih1 h.1.1,ih2 h.1.2,ih3 h.2]
 case load ih=>rw [ih h]
 case faddr ih=>rw [ih h]
 case iaddr ih1 ih2=>rw [ih1 h.1,ih2 h.2]
 case nilck ih=>rw [ih h]
theorem iG {bs:List ab} {g:E} {w:Bool} (hg:bq c env bs g=some (.bool w)): ∀(e:E),bq c env bs (bj g w e)=bq c env bs e:=by
 intro e
 induction e <;> simp only [bj]
 case guard x v y ih1 ih2=>
  split
  ·rename_i h;simp only [Bool.and_eq_true,beq_iff_eq] at h;obtain ⟨h1,rfl⟩:=h;obtain rfl:=b9 h1;rw [ih2];simp only [bq];rw [hg,fm]
  ·simp only [bq];rw [ih1,ih2]
 all_goals simp only [bq, *]
theorem lx {bs:List ab} {g:E} {w:Bool} (hg:bq c env bs g=some (.bool (!w))∨ ∃l,bq c env bs g=some (.aO l)): ∀{e:E},ny g w e=true→bq c env bs e=some (.aO []):=by
 intro e
 induction e <;> intro h <;> simp only [ny,Bool.false_eq_true] at h
 case guard x v y ih1 ih2=>
  simp only [Bool.or_eq_true,Bool.and_eq_true,beq_iff_eq] at h;simp only [bq];rcases h with ⟨h1,rfl⟩ | h1
  ·obtain rfl:=b9 h1;rcases hg with hg | ⟨l,hg⟩
   ·rw [hg,rn]
   ·rw [hg,lu]
  ·rw [ih1 h1,lu]
theorem CD {bs:List ab}: ∀{F e:E},e.within F=true→(bq c env bs F).isSome=true→(bq c env bs e).isSome=true:=by
 intro F
 induction F <;> intro e h hF <;> simp only [E.within,Bool.or_eq_true,Bool.and_eq_true] at h
 case var=>rw [b9 h];exact hF
 case cst=>rw [b9 h];exact hF
 case guard g w x ih1 ih2=>
  rcases h with (h | h) | ⟨h1,h2⟩
  ·rw [b9 h];exact hF
  ·obtain ⟨v,hv⟩:=Option.isSome_iff_exists.1 hF;refine ih1 h ?_;simp only [bq] at hv;rcases gI hv with ⟨h1,h2⟩ | ⟨h1,rfl⟩ | ⟨⟨l,h1⟩,rfl⟩ <;> rw [h1] <;> rfl
  ·obtain ⟨v,hv⟩:=Option.isSome_iff_exists.1 hF;simp only [bq] at hv;rcases gI hv with ⟨h3,h4⟩ | ⟨h3,rfl⟩ | ⟨h3,rfl⟩
   ·rw [←iG h3];exact ih2 h2 (by rw [h4];rfl)
   ·rw [lx (.inl h3) h1];rfl
   ·rw [lx (.inr h3) h1];rfl
 case and g x ih1 ih2=>
  rcases h with (h | h) | ⟨h1,h2⟩
  ·rw [b9 h];exact hF
  ·obtain ⟨v,hv⟩:=Option.isSome_iff_exists.1 hF;refine ih1 h ?_;simp only [bq] at hv;rcases kC hv with ⟨h1,h2⟩ | ⟨h1,rfl⟩ <;> rw [h1] <;> rfl
  ·obtain ⟨v,hv⟩:=Option.isSome_iff_exists.1 hF;simp only [bq] at hv;rcases kC hv with ⟨h3,h4⟩ | ⟨h3,rfl⟩
   ·rw [←iG h3];exact ih2 h2 (by rw [h4];rfl)
   ·rw [lx (.inl h3) h1];rfl
 case or g x ih1 ih2=>
  rcases h with (h | h) | ⟨h1,h2⟩
  ·rw [b9 h];exact hF
  ·obtain ⟨v,hv⟩:=Option.isSome_iff_exists.1 hF;refine ih1 h ?_;simp only [bq] at hv;rcases mw hv with ⟨h1,h2⟩ | ⟨h1,rfl⟩ <;> rw [h1] <;> rfl
  ·obtain ⟨v,hv⟩:=Option.isSome_iff_exists.1 hF;simp only [bq] at hv;rcases mw hv with ⟨h3,h4⟩ | ⟨h3,rfl⟩
   ·rw [←iG h3];exact ih2 h2 (by rw [h4];rfl)
   ·rw [lx (.inl h3) h1];rfl
 case pick p x y ih1 ih2 ih3=>
  obtain ⟨v,hv⟩:=Option.isSome_iff_exists.1 hF;simp only [bq] at hv;obtain ⟨a,b,d,h1,h2,h3,h4⟩:=mv hv;rcases h with ((h | h) | h) | h
  ·rw [b9 h];exact hF
  ·exact ih1 h (by rw [h1];rfl)
  ·exact ih2 h (by rw [h2];rfl)
  ·exact ih3 h (by rw [h3];rfl)
 case slB p x y ih1 ih2 ih3=>
  obtain ⟨v,hv⟩:=Option.isSome_iff_exists.1 hF;simp only [bq] at hv;obtain ⟨a,b,d,h1,h2,h3,h4⟩:=mv hv;rcases h with ((h | h) | h) | h
  ·rw [b9 h];exact hF
  ·exact ih1 h (by rw [h1];rfl)
  ·exact ih2 h (by rw [h2];rfl)
  ·exact ih3 h (by rw [h3];rfl)
 case bin ih1 ih2=>
  obtain ⟨v,hv⟩:=Option.isSome_iff_exists.1 hF;simp only [bq] at hv;obtain ⟨a,b,h1,h2,h3⟩:=eF hv;rcases h with (h | h) | h
  ·rw [b9 h];exact hF
  ·exact ih1 h (by rw [h1];rfl)
  ·exact ih2 h (by rw [h2];rfl)
 case index ih1 ih2=>
  obtain ⟨v,hv⟩:=Option.isSome_iff_exists.1 hF;simp only [bq] at hv;obtain ⟨a,b,h1,h2,h3⟩:=eF hv;rcases h with (h | h) | h
  ·rw [b9 h];exact hF
  ·exact ih1 h (by rw [h1];rfl)
  ·exact ih2 h (by rw [h2];rfl)
 case slL ih1 ih2=>
  obtain ⟨v,hv⟩:=Option.isSome_iff_exists.1 hF;simp only [bq] at hv;obtain ⟨a,b,h1,h2,h3⟩:=eF hv;rcases h with (h | h) | h
  ·rw [b9 h];exact hF
  ·exact ih1 h (by rw [h1];rfl)
  ·exact ih2 h (by rw [h2];rfl)
 case slH ih1 ih2=>
  obtain ⟨v,hv⟩:=Option.isSome_iff_exists.1 hF;simp only [bq] at hv;obtain ⟨a,b,h1,h2,h3⟩:=eF hv;rcases h with (h | h) | h
  ·rw [b9 h];exact hF
  ·exact ih1 h (by rw [h1];rfl)
  ·exact ih2 h (by rw [h2];rfl)
 case iaddr ih1 ih2=>
  obtain ⟨v,hv⟩:=Option.isSome_iff_exists.1 hF;simp only [bq] at hv;obtain ⟨a,b,h1,h2,h3⟩:=eF hv;rcases h with (h | h) | h
  ·rw [b9 h];exact hF
  ·exact ih1 h (by rw [h1];rfl)
  ·exact ih2 h (by rw [h2];rfl)
 all_goals
  rename_i ih;obtain ⟨v,hv⟩:=Option.isSome_iff_exists.1 hF;simp only [bq] at hv;obtain ⟨a,h1,h2⟩:=dH hv;rcases h with h | h
  ·rw [b9 h];exact hF
  ·exact ih h (by rw [h1];rfl)
theorem Eg {bs:List ab} {bad:E→Bool}: ∀{F e:E},e∈dq bad F→(bq c env bs F).isSome=true→(bq c env bs e).isSome=true:=by
 have grd: ∀{g x e:E} {w:Bool} {v:AV},e∈(dq bad x).map (.guard g w)→(∀{e},e∈dq bad x→(bq c env bs x).isSome=true→(bq c env bs e).isSome=true)→lp (bq c env bs g) w (bq c env bs x)=some v→(bq c env bs e).isSome=true:=by
  intro g x e w v he ih hv;obtain ⟨y,hy,rfl⟩:=List.mem_map.1 he;simp only [bq];rcases gI hv with ⟨h1,h2⟩ | ⟨h1,rfl⟩ | ⟨⟨l,h1⟩,rfl⟩
  ·rw [h1,fm];exact ih hy (by rw [h2];rfl)
  ·rw [h1,rn];rfl
  ·rw [h1,lu];rfl
 intro F
 induction F <;> intro e h hF <;> simp only [dq] at h
 case guard g w x ih1 ih2=>
  split at h
  case h_2=>simp only [List.mem_cons,List.not_mem_nil,or_false] at h;rw [h];exact hF
  obtain ⟨v,hv⟩:=Option.isSome_iff_exists.1 hF;simp only [bq] at hv;rw [List.mem_append] at h;rcases h with h | h
  ·refine ih1 h ?_;rcases gI hv with ⟨h1,h2⟩ | ⟨h1,rfl⟩ | ⟨⟨l,h1⟩,rfl⟩ <;> rw [h1] <;> rfl
  ·split at h
   ·cases h
   ·exact grd h ih2 hv
 case and g x ih1 ih2=>
  split at h
  case h_2=>simp only [List.mem_cons,List.not_mem_nil,or_false] at h;rw [h];exact hF
  obtain ⟨v,hv⟩:=Option.isSome_iff_exists.1 hF;simp only [bq] at hv;rw [List.mem_append] at h;rcases h with h | h
  ·refine ih1 h ?_;rcases kC hv with ⟨h1,h2⟩ | ⟨h1,rfl⟩ <;> rw [h1] <;> rfl
  ·split at h
   ·cases h
   ·rcases kC hv with ⟨h1,h2⟩ | ⟨h1,rfl⟩
    ·exact grd (v:=v) h ih2 (by rw [h1,fm];exact h2)
    ·exact grd (v:= .aO []) h ih2 (by rw [h1];rfl)
 case or g x ih1 ih2=>
  split at h
  case h_2=>simp only [List.mem_cons,List.not_mem_nil,or_false] at h;rw [h];exact hF
  obtain ⟨v,hv⟩:=Option.isSome_iff_exists.1 hF;simp only [bq] at hv;rw [List.mem_append] at h;rcases h with h | h
  ·refine ih1 h ?_;rcases mw hv with ⟨h1,h2⟩ | ⟨h1,rfl⟩ <;> rw [h1] <;> rfl
  ·split at h
   ·cases h
   ·rcases mw hv with ⟨h1,h2⟩ | ⟨h1,rfl⟩
    ·exact grd (v:=v) h ih2 (by rw [h1,fm];exact h2)
    ·exact grd (v:= .aO []) h ih2 (by rw [h1];rfl)
 all_goals
  split at h
  case h_2=>simp only [List.mem_cons,List.not_mem_nil,or_false] at h;rw [h];exact hF
  obtain ⟨v,hv⟩:=Option.isSome_iff_exists.1 hF;simp only [bq] at hv
  first
   | (simp only [List.not_mem_nil] at h;done)
   | (obtain ⟨a, b, d, h1, h2, h3, h4⟩ := mv hv
      rename_i ih1 ih2 ih3 _ _;simp only [List.mem_append] at h;rcases h with h | h | h
      ·exact ih1 h (by rw [h1]; rfl)
      ·exact ih2 h (by rw [h2]; rfl)
      ·exact ih3 h (by rw [h3]; rfl))
   | (obtain ⟨a, b, h1, h2, h3⟩ := eF hv
      rename_i ih1 ih2 _ _;simp only [List.mem_append] at h;rcases h with h | h
      ·exact ih1 h (by rw [h1]; rfl)
      ·exact ih2 h (by rw [h2]; rfl))
   | (obtain ⟨a, h1, h2⟩ := dH hv
      rename_i ih _ _;exact ih h (by rw [h1]; rfl))
theorem wY {bad:E→Bool} (hb: ∀g w x,bad (.guard g w x)=(bad g || bad x)): ∀{F e:E},e∈dq bad F→bad e=false:=by
 have grd: ∀{g x e:E} {w:Bool},e∈(match bad g with | true=> [] | false=>(dq bad x).map (E.guard g w))→(∀{e},e∈dq bad x→bad e=false)→bad e=false:=by
  intro g x e w he ih;split at he
  ·cases he
  ·rename_i hg;obtain ⟨y,hy,rfl⟩:=List.mem_map.1 he;rw [hb,hg,ih hy];rfl
 intro F
 induction F <;> intro e h <;> simp only [dq] at h
 case guard g w x ih1 ih2=>
  split at h
  case h_2=>simp only [List.mem_cons,List.not_mem_nil,or_false] at h;rw [h];assumption
  rw [List.mem_append] at h;rcases h with h | h
  ·exact ih1 h
  ·exact grd h ih2
 case and g x ih1 ih2=>
  split at h
  case h_2=>simp only [List.mem_cons,List.not_mem_nil,or_false] at h;rw [h];assumption
  rw [List.mem_append] at h;rcases h with h | h
  ·exact ih1 h
  ·exact grd h ih2
 case or g x ih1 ih2=>
  split at h
  case h_2=>simp only [List.mem_cons,List.not_mem_nil,or_false] at h;rw [h];assumption
  rw [List.mem_append] at h;rcases h with h | h
  ·exact ih1 h
  ·exact grd h ih2
 all_goals
  split at h
  case h_2=>simp only [List.mem_cons,List.not_mem_nil,or_false] at h;rw [h];assumption
  first
   | (simp only [List.not_mem_nil] at h;done)
   | (rename_i ih1 ih2 ih3 _ _
      simp only [List.mem_append] at h;rcases h with h | h | h
      ·exact ih1 h
      ·exact ih2 h
      ·exact ih3 h)
   | (rename_i ih1 ih2 _ _
      simp only [List.mem_append] at h;rcases h with h | h
      ·exact ih1 h
      ·exact ih2 h)
   | (rename_i ih _ _
      exact ih h)
end
end Go.Am
namespace Go.Am
theorem Ho (c:ax) (cf:aG) (op:Op) (t:Env) (bs:List ab) (id:Nat):bN c cf op t bs id=dG c cf op (ev t) bs id:=by
 cases op
 case call k=>
  obtain ⟨callee,args,ts⟩:=k;cases callee <;> rfl
 all_goals rfl
theorem ly {φ ψ:Operand→AV} {l:List Operand} (h: ∀x∈l,φ x=ψ x):l.map φ=l.map ψ:=List.map_congr_left h
theorem pZ {φ ψ:Operand→AV} {l:List (Nat×Operand)} (h: ∀x∈l.map (·.2),φ x=ψ x):(l.map fun p=>(p.1,φ p.2))=l.map fun p=>(p.1,ψ p.2):=
 List.map_congr_left fun p hp=>by rw [h p.2 (List.mem_map_of_mem hp)]
theorem oW {φ ψ:Operand→AV} {x:Option Operand} (h: ∀y∈x.toArray,φ y=ψ y):x.map φ=x.map ψ:=by
 cases x with
 | none=>rfl
 | some x=>simp only [Option.map_some];rw [h x (by simp)]
theorem oX (c:ax) {op:Op} {φ ψ:Operand→AV} (h: ∀x∈op.operands,φ x=ψ x) (bs:List ab) (id:Nat):cK c op φ bs id=cK c op ψ bs id:=by
 cases op <;> simp only [Op.operands] at h
 case move x=>simp only [cK];rw [h x (by simp)]
 case assign x=>simp only [cK];rw [h x (by simp)]
 case pick x y z=>simp only [cK];rw [h x (by simp),h y (by simp),h z (by simp)]
 case box e x=>simp only [cK];rw [h x (by simp)]
 case build ty ps=>simp only [cK];rw [pZ (fun x hx=>h x (by simpa using hx))]
 case buildSlice ty n ps=>simp only [cK];rw [pZ (fun x hx=>h x (by simpa using hx))]
 case load ty x=>simp only [cK];rw [h x (by simp)]
 case store ty x y=>simp only [cK];rw [h x (by simp),h y (by simp)]
 case nilCheck x=>simp only [cK];rw [h x (by simp)]
 case makeInterface ty x=>simp only [cK];rw [h x (by simp)]
 case binOp o ty x y ty'=>simp only [cK];rw [h x (by simp),h y (by simp)]
 case unOp o ty x=>simp only [cK];rw [h x (by simp)]
 case convert s d x=>simp only [cK];rw [h x (by simp)]
 case makeFunc fn first caps=>
  cases fn <;> first
   | rfl
   | (simp only [cK];rw [ly (fun x hx=>h x (by simp at hx⊢;exact .inl hx)),ly (fun x hx=>h x (by simp at hx⊢;exact .inr hx))])
 case makeSlice ty x y=>simp only [cK];rw [h x (by simp),h y (by simp)]
 case slice ty x lo hi mx=>
  have h1:=oW (x:=lo) (fun y hy=>h y (by simp only [Array.mem_append];exact .inl (.inl (.inr hy))));have h2:=oW (x:=hi) (fun y hy=>h y (by simp only [Array.mem_append];exact .inl (.inr hy)));simp only [cK];rw [h x (by simp),h1,h2];cases mx with
  | none=>rfl
  | some m=>simp only;rw [h m (by simp)]
 case fieldAddr ty x f=>simp only [cK];rw [h x (by simp)]
 case field ty x f=>simp only [cK];rw [h x (by simp)]
 case indexAddr ty x y=>simp only [cK];rw [h x (by simp),h y (by simp)]
 case index ty x y=>simp only [cK];rw [h x (by simp),h y (by simp)]
 case extract x i=>simp only [cK];rw [h x (by simp)]
 case makeMap ty r=>simp only [cK];rw [oW h]
 case range ty x=>simp only [cK];rw [h x (by simp)]
 case next x str=>simp only [cK];rw [h x (by simp)]
 case lookup ty x k ok=>simp only [cK];rw [h x (by simp),h k (by simp)]
 case mapUpdate ty m k x=>simp only [cK];rw [h m (by simp),h k (by simp),h x (by simp)]
 case insert ty m k x=>simp only [cK];rw [h m (by simp),h k (by simp),h x (by simp)]
 case mapEntry ty m k=>simp only [cK];rw [h m (by simp),h k (by simp)]
 case entryStore ty m s x=>simp only [cK];rw [h m (by simp),h s (by simp),h x (by simp)]
 case entry x=>simp only [cK];rw [h x (by simp)]
 case call k=>
  obtain ⟨callee,args,ts⟩:=k;simp only [cK];rw [ly (fun x hx=>h x (by simp only [Call.operands,Array.mem_append];exact .inr (by simpa using hx)))]
 all_goals rfl
theorem Ap (c:ax) (cf:aG) {op:Op} {φ ψ:Operand→AV} (h: ∀x∈op.operands,φ x=ψ x) (bs:List ab) (id:Nat):dG c cf op φ bs id=dG c cf op ψ bs id:=by
 unfold dG;split
 ·rename_i k;obtain ⟨callee,args,ts⟩:=k;simp only;cases callee with
  | value f=>simp only;rw [h f (by simp [Op.operands,Call.operands]),ly (fun x hx=>h x (by simp only [Op.operands,Call.operands,Array.mem_append];exact .inr (by simpa using hx)))]
  | invoke r m=>exact oX c h bs id
  | builtin b=>exact oX c h bs id
 ·exact oX c h bs id
theorem c9 {x:Option E} {f:E→E} {e:E} (h:gH x f=some e): ∃a,x=some a∧e=f a:=by
 unfold gH at h;cases x with
 | none=>cases h
 | some a=>cases h;exact ⟨a,rfl,rfl⟩
theorem jb {x y:Option E} {f:E→E→E} {e:E} (h:pW x y f=some e): ∃a b,x=some a∧y=some b∧e=f a b:=by
 unfold pW at h;split at h
 ·cases h;exact ⟨_,_,rfl,rfl,rfl⟩
 ·cases h
theorem uK {x y z:Option E} {f:E→E→E→E} {e:E} (h:Ag x y z f=some e): ∃a b d,x=some a∧y=some b∧z=some d∧e=f a b d:=by
 unfold Ag at h;split at h
 ·cases h;exact ⟨_,_,_,rfl,rfl,rfl,rfl⟩
 ·cases h
theorem CE {c:ax} {env:List (Option AV)} {bs:List ab} {p a b:E} {v:AV} (h:bq c env bs (Cz p a b)=some v):bq c env bs (.pick p a b)=some v:=by
 unfold Cz at h;split at h
 ·split at h
  ·rename_i hs;obtain rfl:=b9 hs;simp only [bq] at h⊢;rcases kC h with ⟨h1,h2⟩ | ⟨h1,rfl⟩
   ·rw [h1,fm,h2];rfl
   ·rw [h1];rfl
  ·exact h
 ·split at h
  ·rename_i hs;obtain rfl:=b9 hs;simp only [bq] at h⊢;rcases mw h with ⟨h1,h2⟩ | ⟨h1,rfl⟩
   ·rw [h1,fm,h2];rfl
   ·rw [h1];rfl
  ·exact h
 ·exact h
theorem CF {c:ax} {s d:Option TI} {x r:AV} {bs:List ab} {i j:Nat} (h:dD c s d x bs i=some (r,.none)):dD c s d x bs j=some (r,.none):=by
 unfold dD at h⊢
 repeat' (first | exact h | (split at h <;> try (cases h;done)))
 all_goals first
  | exact h
  | (simp_all;done)
theorem Jt {c:ax} {cf:aG} {env:List (Option AV)} {bs:List ab} {ρ:Operand→Option E} {φ:Operand→AV} (hρ: ∀x e v,ρ x=some e→bq c env bs e=some v→φ x=v) {op:Op} {e:E} {v:AV}
  (h:mq c ρ op=some e) (hv:bq c env bs e=some v) (id:Nat):dG c cf op φ bs id=some (v,.none):=by
 unfold mq at h;split at h
 ·simp only [dG,cK];rw [hρ _ _ _ h hv]
 ·simp only [dG,cK];rw [hρ _ _ _ h hv]
 ·obtain ⟨a,b,d,h1,h2,h3,rfl⟩:=uK h;have hv:=CE hv;simp only [bq] at hv;obtain ⟨x,y,z,k1,k2,k3,k4⟩:=mv hv;simp only [dG,cK];rw [hρ _ _ _ h1 k1,hρ _ _ _ h2 k2,hρ _ _ _ h3 k3];exact ee k4
 ·split at h
  ·cases h
  rename_i hq;obtain ⟨a,b,h1,h2,rfl⟩:=jb h;simp only [bq] at hv;obtain ⟨x,y,k1,k2,k3⟩:=eF hv;simp only [dG,cK,E3,hq];rw [hρ _ _ _ h1 k1,hρ _ _ _ h2 k2,k3];rfl
 ·obtain ⟨a,h1,rfl⟩:=c9 h;simp only [bq] at hv;obtain ⟨x,k1,k2⟩:=dH hv;simp only [dG,cK];rw [hρ _ _ _ h1 k1,k2];rfl
 ·obtain ⟨a,b,h1,h2,rfl⟩:=jb h;simp only [bq] at hv;obtain ⟨x,y,k1,k2,k3⟩:=eF hv;simp only [dG,cK];rw [hρ _ _ _ h1 k1,hρ _ _ _ h2 k2];exact ee k3
 ·obtain ⟨a,h1,rfl⟩:=c9 h;simp only [bq] at hv;obtain ⟨x,k1,k2⟩:=dH hv;simp only [dG,cK];rw [hρ _ _ _ h1 k1];exact ee k2
 ·obtain ⟨a,h1,rfl⟩:=c9 h;simp only [bq] at hv;obtain ⟨x,k1,k2⟩:=dH hv;simp only [dG,cK];rw [hρ _ _ _ h1 k1];exact ee k2
 ·-- convert
  simp only [dG,cK];split at h
  ·rename_i hs hd;obtain ⟨a,h1,rfl⟩:=c9 h;simp only [bq] at hv;obtain ⟨x,k1,k2⟩:=dH hv;rw [hρ _ _ _ h1 k1];simp only [ax.descOf,Option.map_eq_some_iff] at hs hd;obtain ⟨i,hi,hi2⟩:=hs;obtain ⟨j,hj,hj2⟩:=hd;unfold Cx at k2;split at k2
   ·cases k2;simp only [hi,hj,dD,hj2]
   ·cases k2
  ·cases h
  ·obtain ⟨a,h1,rfl⟩:=c9 h;simp only [bq] at hv;obtain ⟨x,k1,k2⟩:=dH hv;rw [hρ _ _ _ h1 k1];exact CF (ee k2)
 ·obtain ⟨a,h1,rfl⟩:=c9 h;simp only [bq] at hv;obtain ⟨x,k1,k2⟩:=dH hv;simp only [dG,cK];rw [hρ _ _ _ h1 k1];exact ee k2
 ·obtain ⟨a,h1,rfl⟩:=c9 h;simp only [bq] at hv;obtain ⟨x,k1,k2⟩:=dH hv;simp only [dG,cK];rw [hρ _ _ _ h1 k1];exact ee k2
 ·obtain ⟨a,b,h1,h2,rfl⟩:=jb h;simp only [bq] at hv;obtain ⟨x,y,k1,k2,k3⟩:=eF hv;simp only [dG,cK];rw [hρ _ _ _ h1 k1,hρ _ _ _ h2 k2];exact ee k3
 ·obtain ⟨a,h1,rfl⟩:=c9 h;simp only [bq] at hv;obtain ⟨x,k1,k2⟩:=dH hv;simp only [dG,cK];rw [hρ _ _ _ h1 k1];exact ee k2
 ·-- slice
  have sl: ∀{x r:AV} {lo hi:Option AV},oT x lo hi=some r→dn c .string x lo hi bs=some (r,.none):=by
   intro x r lo hi h;unfold oT at h;split at h
   ·simp only [dn];split at h
    ·rename_i hh;rw [hh];simp only;split at h
     ·rename_i hl;rw [hl];cases h;rfl
     ·cases h
    ·cases h
   ·cases h
  split at h
  ·rename_i hd;simp only [ax.descOf,Option.map_eq_some_iff] at hd;obtain ⟨j,hj,hj2⟩:=hd;simp only [dG,cK,hj,hj2];split at h
   ·obtain ⟨a,h1,rfl⟩:=c9 h;simp only [bq] at hv;obtain ⟨x,k1,k2⟩:=dH hv;rw [hρ _ _ _ h1 k1];exact sl k2
   ·obtain ⟨a,b,h1,h2,rfl⟩:=jb h;simp only [bq] at hv;obtain ⟨x,y,k1,k2,k3⟩:=eF hv;simp only [Option.map_some,Option.map_none];rw [hρ _ _ _ h1 k1,hρ _ _ _ h2 k2];exact sl k3
   ·obtain ⟨a,b,h1,h2,rfl⟩:=jb h;simp only [bq] at hv;obtain ⟨x,y,k1,k2,k3⟩:=eF hv;simp only [Option.map_some,Option.map_none];rw [hρ _ _ _ h1 k1,hρ _ _ _ h2 k2];exact sl k3
   ·obtain ⟨a,b,d,h1,h2,h3,rfl⟩:=uK h;simp only [bq] at hv;obtain ⟨x,y,z,k1,k2,k3,k4⟩:=mv hv;simp only [Option.map_some];rw [hρ _ _ _ h1 k1,hρ _ _ _ h2 k2,hρ _ _ _ h3 k3];exact sl k4
  ·cases h
 ·-- len
  rename_i k;obtain ⟨callee,args,ts⟩:=k;simp only at h;split at h
  ·rename_i hts hargs;simp only [dG,cK];rw [hts,hargs];simp only [List.map_cons,List.map_nil,ea];split at h
   ·rename_i hd;simp only [ax.descOf,Option.map_eq_some_iff] at hd;obtain ⟨j,hj,hj2⟩:=hd;obtain ⟨a,h1,rfl⟩:=c9 h;simp only [bq] at hv;obtain ⟨x,k1,k2⟩:=dH hv;rw [hρ _ _ _ h1 k1];unfold Hi at k2;split at k2
    ·cases k2;simp only [hj,hj2,oI]
    ·cases k2
   ·obtain ⟨a,h1,rfl⟩:=c9 h;simp only [bq] at hv;obtain ⟨x,k1,k2⟩:=dH hv;rw [hρ _ _ _ h1 k1];have:=ee k2;unfold Mo at this;exact this
  ·cases h
 ·cases h
end Go.Am
namespace Go.Am
section
variable {c:ax} {cf:aG} {base:Nat} {kl:List Nat}
abbrev seen (base:Nat) (kl:List Nat) (bs:List ab):List ab:=aR (kl.map (base+ ·)) bs
theorem my {env:List (Option AV)} {bs:List ab}: ∀{l:List (Nat×E)} {vs:List (Nat×AV)},nV c env bs l=some vs→ ∀i e,(i,e)∈l→ ∃v,bq c env bs e=some v∧(i,v)∈vs
 | [],vs,h,i,e,hm=>by cases hm
 | (j,f)::r,vs,h,i,e,hm=>by
  simp only [nV] at h;split at h
  ·rename_i v hv;split at h
   ·rename_i l hl;cases h;rcases List.mem_cons.1 hm with h1 | h1
    ·cases h1;exact ⟨v,hv,List.mem_cons_self⟩
    ·obtain ⟨u,h2,h3⟩:=my hl i e h1;exact ⟨u,h2,List.mem_cons_of_mem _ h3⟩
   ·cases h
  ·cases h
theorem kD {env:List (Option AV)} {bs:List ab}: ∀{l:List (Nat×E)} {vs:List (Nat×AV)},nV c env bs l=some vs→vs.map (·.1)=l.map (·.1)
 | [],vs,h=>by cases h;rfl
 | (j,f)::r,vs,h=>by
  simp only [nV] at h;split at h
  ·split at h
   ·rename_i l hl;cases h;simp only [List.map_cons,kD hl]
   ·cases h
  ·cases h
theorem j8: ∀(vs:List (Nat×AV)) (env:List (Option AV)),(dj env vs).length=env.length
 | [],_=>rfl
 | (i,v)::r,env=>by simp only [dj];rw [j8 r];simp
theorem j9 {k:Nat}: ∀(vs:List (Nat×AV)) (env:List (Option AV)),(∀p∈vs,p.1≠k)→(dj env vs).getD k none=env.getD k none
 | [],_,_=>rfl
 | (i,v)::r,env,h=>by
  simp only [dj];rw [j9 r _ fun p hp=>h p (List.mem_cons_of_mem _ hp)];simp only [List.getD_eq_getElem?_getD];rw [List.getElem?_set_ne (h (i,v) List.mem_cons_self)]
theorem uL {k:Nat} {v:AV}: ∀(vs:List (Nat×AV)) (env:List (Option AV)),(vs.map (·.1)).Nodup→(k,v)∈vs→k<env.length→(dj env vs).getD k none=some v
 | [],_,_,h,_=>by cases h
 | (i,u)::r,env,hn,h,hk=>by
  simp only [List.map_cons,List.nodup_cons] at hn;simp only [dj];rcases List.mem_cons.1 h with h1 | h1
  ·cases h1;rw [j9 r _ fun p hp e=>hn.1 (by rw [←e];exact List.mem_map_of_mem hp)];simp [List.getD_eq_getElem?_getD,hk]
  ·exact uL r _ hn.2 h1 (by simpa using hk)
theorem oY {bs:List ab} {e:E}: ∀(vs:List (Nat×AV)) (env:List (Option AV)),(∀p∈vs,e.looks p.1=false)→bq c (dj env vs) bs e=bq c env bs e
 | [],_,_=>rfl
 | (i,v)::r,env,h=>by
  simp only [dj];rw [oY r _ fun p hp=>h p (List.mem_cons_of_mem _ hp)];exact yB (h (i,v) List.mem_cons_self)
theorem Ju {α:Type} (l:List α) (f g:α→Bool):(l.any fun p=>f p || g p)=(l.any f || l.any g):=by
 induction l with
 | nil=>rfl
 | cons a l ih=>simp only [List.any_cons,ih];cases f a <;> cases g a <;> cases l.any f <;> rfl
theorem rq: ∀{its:List It} {env:List (Option AV)} {bs:List ab} {r:List (Option AV)×List ab},bh c cf base kl its env bs=some r→ ∀e∈oU its,(bq c env (seen base kl bs) e).isSome=true
 | [],_,_,_,_,e,he=>by cases he
 | .par l::its,env,bs,r,h,e,he=>by
  simp only [bh] at h;split at h
  ·rename_i vs hvs;simp only [oU,List.mem_append,List.mem_flatMap] at he;rcases he with he | ⟨f,hf,he⟩
   ·obtain ⟨⟨i,e'⟩,hp,rfl⟩:=List.mem_map.1 he;obtain ⟨v,hv,_⟩:=my hvs i e' hp;show (bq c env (seen base kl bs) e').isSome=true;rw [hv];rfl
   ·have h1:=rq h f hf;have h2:=Eg he h1;have h3:=wY (bad:=fun e=>l.any fun p=>e.looks p.1) (fun g w x=>by simp only [E.looks];exact Ju l _ _) he;rw [oY vs env (fun p hp=> ?_)] at h2
    ·exact h2
    ·have:p.1∈l.map (·.1):=by rw [←kD hvs];exact List.mem_map_of_mem hp
     obtain ⟨q,hq,hqp⟩:=List.mem_map.1 this;rw [List.any_eq_false] at h3;have:=h3 q hq;rw [hqp] at this;simpa using this
  ·cases h
 | .aA mask k d g o xs::its,env,bs,r,h,e,he=>by
  simp only [bh] at h
  have late: ∀{v:AV} {bs':List ab},bh c cf base kl its (uC env d v) bs'=some r→e∈(oU its).flatMap (dq fun e=>e.reads || uD d e)→(bq c env (seen base kl bs) e).isSome=true:=by
   intro v bs' h he;obtain ⟨f,hf,he⟩:=List.mem_flatMap.1 he;have h1:=rq h f hf;have h2:=Eg he h1
   have h3:=wY (bad:=fun e=>e.reads || uD d e) (fun g w x=>by
    cases d with
    | none=>simp only [E.reads,uD,Bool.or_false]
    | some i=>simp only [E.reads,uD,E.looks];cases g.reads <;> cases x.reads <;> cases g.looks i <;> cases x.looks i <;> rfl) he
   simp only [Bool.or_eq_false_iff] at h3;rw [uJ h3.1 (bs':=seen base kl bs)] at h2;cases d with
   | none=>exact h2
   | some i=>simp only [uC] at h2;rw [yB h3.2] at h2;exact h2
  simp only [oU,List.mem_append] at he;split at h
  ·rename_i hw;split at h
   ·rename_i vs hvs;split at h
    ·rcases he with he | he
     ·cases g with
      | none=>simp only at he;obtain ⟨⟨i,e'⟩,hp,rfl⟩:=List.mem_map.1 he;obtain ⟨v,hv,_⟩:=my hvs i e' hp;show (bq c env (seen base kl bs) e').isSome=true;rw [hv];rfl
      | some q=>
       obtain ⟨x,w⟩:=q;simp only [sx,sv] at hw
       have hx:bq c env (seen base kl bs) x=some (.bool w):=by
        split at hw
        ·rename_i b hb;rw [hb];cases b <;> cases w <;> simp_all
        ·cases hw
        ·cases hw
       simp only [List.mem_cons] at he;rcases he with rfl | he
       ·rw [hx];rfl
       ·obtain ⟨⟨i,e'⟩,hp,rfl⟩:=List.mem_map.1 he;obtain ⟨v,hv,_⟩:=my hvs i e' hp;simp only [bq];rw [hx,fm,hv];rfl
     ·exact late h he
    ·cases h
   ·cases h
  ·rename_i hw;rcases he with he | he
   ·cases g with
    | none=>simp [sx] at hw
    | some q=>
     obtain ⟨x,w⟩:=q;simp only [sx,sv] at hw
     have hx:bq c env (seen base kl bs) x=some (.bool (!w))∨ ∃l,bq c env (seen base kl bs) x=some (.aO l):=by
      split at hw
      ·rename_i b hb;left;rw [hb];cases b <;> cases w <;> simp_all
      ·rename_i l hb;right;exact ⟨l,hb⟩
      ·cases hw
     simp only [List.mem_cons] at he;rcases he with rfl | he
     ·rcases hx with hx | ⟨l,hx⟩ <;> rw [hx] <;> rfl
     ·obtain ⟨⟨i,e'⟩,hp,rfl⟩:=List.mem_map.1 he;simp only [bq];rcases hx with hx | ⟨l,hx⟩
      ·rw [hx,rn];rfl
      ·rw [hx,lu];rfl
   ·exact late h he
  ·cases h
theorem kE {i:Nat} {e:E}: ∀{σ:List (Nat×E)},dh σ i=some e→(i,e)∈σ
 | [],h=>by cases h
 | (j,f)::r,h=>by
  simp only [dh] at h;split at h
  ·rename_i hij;cases h;subst hij;exact List.mem_cons_self
  ·exact List.mem_cons_of_mem _ (kE h)
theorem oZ {i:Nat} {e:E}: ∀{σ:List (Nat×E)},(i,e)∈σ→ ∃f,dh σ i=some f
 | [],h=>by cases h
 | (j,f)::r,h=>by
  simp only [dh];split
  ·exact ⟨f,rfl⟩
  ·rename_i hij;rcases List.mem_cons.1 h with h1 | h1
   ·cases h1;exact absurd rfl hij
   ·exact oZ h1
def ka (σ:List (Nat×E)):Prop:= ∀i e,(i,e)∈σ→dh σ i=some e
theorem ka.filter {σ:List (Nat×E)} (h:ka σ) (p:Nat×E→Bool):ka (σ.filter p):=fun i e he=>by
 obtain ⟨f,hf⟩:=oZ he;have h1:=h i e (List.mem_filter.1 he).1;have h2:=h i f (List.mem_filter.1 (kE hf)).1;rw [h1] at h2;cases h2;exact hf
theorem ka.look {σ:List (Nat×E)} (h:ka σ) {p:Nat×E→Bool} {i:Nat} {e:E} (hl:dh (σ.filter p) i=some e):dh σ i=some e∧p (i,e)=true:=
 ⟨h i e (List.mem_filter.1 (kE hl)).1,(List.mem_filter.1 (kE hl)).2⟩
theorem ka.cons {σ:List (Nat×E)} (h:ka σ) (d:Nat) (e:E):ka ((d,e)::σ.filter fun p=>p.1 !=d):=fun i f hf=>by
 simp only [dh];rcases List.mem_cons.1 hf with h1 | h1
 ·cases h1;rw [if_pos rfl]
 ·have:=(List.mem_filter.1 h1).2;simp only [bne_iff_ne] at this;rw [if_neg this];exact h.filter _ i f h1
theorem rA: ∀{keep:List Nat} {i j k:Nat},posOf keep i=some k→posOf keep j=some k→i=j
 | [],_,_,_,h,_=>by cases h
 | x::r,i,j,k,h1,h2=>by
  simp only [posOf] at h1 h2;split at h1 <;> split at h2
  ·subst_vars;rfl
  ·cases h1;cases hp:posOf r j <;> rw [hp] at h2 <;> cases h2
  ·cases h2;cases hp:posOf r i <;> rw [hp] at h1 <;> cases h1
  ·cases hi:posOf r i with
   | none=>rw [hi] at h1;cases h1
   | some a=>cases hj:posOf r j with
    | none=>rw [hj] at h2;cases h2
    | some b=>rw [hi] at h1;rw [hj] at h2;simp only [Option.map_some,Option.some.injEq] at h1 h2;exact rA hi (by rw [hj];congr 1;omega)
theorem cX: ∀{keep:List Nat} {i k:Nat},posOf keep i=some k→keep[k]?=some i
 | [],_,_,h=>by cases h
 | x::r,i,k,h=>by
  simp only [posOf] at h;split at h
  ·cases h;subst_vars;rfl
  ·cases hi:posOf r i with
   | none=>rw [hi] at h;cases h
   | some a=>rw [hi] at h;cases h;simpa using cX hi
theorem uM {keep:List Nat} {σ:List (Nat×E)} {i:Nat} {e:E} (he:dh σ i=some e): ∀{l:List Nat} {j k0:Nat},l[j]?=some i→(k0+j,e)∈dm keep σ l k0
 | [],_,_,h=>by simp at h
 | x::r,0,k0,h=>by simp at h;subst h;simp [dm,he]
 | x::r,j+1,k0,h=>by
  have:=uM (keep:=keep) he (l:=r) (j:=j) (k0:=k0+1) (by simpa using h);rw [show k0+1+j=k0+(j+1) by omega] at this;simp only [dm];split
  ·exact List.mem_cons_of_mem _ this
  ·exact this
theorem jM {keep:List Nat} {σ:List (Nat×E)} {k:Nat} {e:E}: ∀{l:List Nat} {k0:Nat},(k,e)∈dm keep σ l k0→ ∃j i,l[j]?=some i∧k=k0+j∧dh σ i=some e
 | [],_,h=>by cases h
 | x::r,k0,h=>by
  simp only [dm] at h;split at h
  ·rename_i f hf;rcases List.mem_cons.1 h with h1 | h1
   ·cases h1;exact ⟨0,x,rfl,rfl,hf⟩
   ·obtain ⟨j,i,h2,h3,h4⟩:=jM h1;exact ⟨j+1,i,by simpa using h2,by omega,h4⟩
  ·obtain ⟨j,i,h2,h3,h4⟩:=jM h;exact ⟨j+1,i,by simpa using h2,by omega,h4⟩
theorem lA {keep:List Nat} {σ:List (Nat×E)}: ∀(l:List Nat) (k0:Nat),((dm keep σ l k0).map (·.1)).Nodup
 | [],_=>List.nodup_nil
 | x::r,k0=>by
  simp only [dm];split
  ·simp only [List.map_cons,List.nodup_cons];refine ⟨fun h=> ?_,lA r _⟩;obtain ⟨⟨k,e⟩,h1,h2⟩:=List.mem_map.1 h;obtain ⟨j,i,_,h4,_⟩:=jM h1;simp only at h2;omega
  ·exact lA r _
structure kc (c:ax) (keep:List Nat) (nt:Nat) (env:List (Option AV)) (bs:List ab) (σ:List (Nat×E)) (t:Env):Prop where
 len:env.length=keep.length
 has: ∀i,i<nt→t.has i=true
 uniq:ka σ
 Ms: ∀i e v,dh σ i=some e→bq c env bs e=some v→t.get .any i=v
 env: ∀i k v,dh σ i=none→posOf keep i=some k→env.getD k none=some v→t.get .any i=v
variable {keep:List Nat} {nt:Nat} {env:List (Option AV)} {bs:List ab} {σ:List (Nat×E)} {t:Env}
theorem kc.res (h:kc c keep nt env bs σ t) {i:Nat} {e:E} {v:AV} (hr:yu keep σ i=some e) (hv:bq c env bs e=some v):t.get .any i=v:=by
 unfold yu at hr;split at hr
 ·rename_i f hf;cases hr;exact h.Ms i _ v hf hv
 ·rename_i hf;simp only [Option.map_eq_some_iff] at hr;obtain ⟨k,hk,rfl⟩:=hr;exact h.env i k v hf hk hv
theorem kc.yv (h:kc c keep nt env bs σ t) {x:Operand} {e:E} {v:AV} (hr:yv keep σ x=some e) (hv:bq c env bs e=some v):ev t x=v:=by
 cases x with
 | tmp i=>exact h.res hr hv
 | const u=>cases hr;cases hv;rfl
 | func f=>cases hr;cases hv;rfl
 | global g=>cases hr
theorem kc.flush (h:kc c keep nt env bs σ t) {vs:List (Nat×AV)} (hvs:nV c env bs (dm keep σ keep 0)=some vs): ∀i k v,posOf keep i=some k→(dj env vs).getD k none=some v→t.get .any i=v:=by
 intro i k v hk hv;have hg:=cX hk;have hlt:k<env.length:=by rw [h.len];exact (List.getElem?_eq_some_iff.1 hg).1
 cases hl:dh σ i with
 | some e=>have hm:=uM (keep:=keep) hl (l:=keep) (j:=k) (k0:=0) hg;rw [Nat.zero_add] at hm;obtain ⟨u,hu,hum⟩:=my hvs k e hm;rw [uL vs env (by rw [kD hvs];exact lA _ _) hum hlt] at hv;cases hv;exact h.Ms i e _ hl hu
 | none=>
  rw [j9 vs env (fun p hp hpk=> ?_)] at hv
  ·exact h.env i k v hl hk hv
  ·have:p.1∈(dm keep σ keep 0).map (·.1):=by rw [←kD hvs];exact List.mem_map_of_mem hp
   obtain ⟨⟨k',e⟩,h1,h2⟩:=List.mem_map.1 this;obtain ⟨j,i',h3,h4,h5⟩:=jM h1;simp only at h2;have:j=k:=by omega
   subst this;rw [hg] at h3;cases h3;rw [hl] at h5;cases h5
theorem kc.Jv (h:kc c keep nt env bs σ t) {vs:List (Nat×AV)} (hvs:nV c env bs (dm keep σ keep 0)=some vs):kc c keep nt (dj env vs) bs (wW keep (dm keep σ keep 0) σ) t where
 len:=by rw [j8];exact h.len
 has:=h.has
 uniq:=h.uniq.filter _
 Ms:=fun i e v hl hv=>by
  obtain ⟨h1,h2⟩:=h.uniq.look hl;simp only [Bool.and_eq_true,List.all_eq_true,Bool.not_eq_true'] at h2;rw [oY vs env (fun p hp=> ?_)] at hv
  ·exact h.Ms i e v h1 hv
  ·have:p.1∈(dm keep σ keep 0).map (·.1):=by rw [←kD hvs];exact List.mem_map_of_mem hp
   obtain ⟨q,hq,hqp⟩:=List.mem_map.1 this;rw [←hqp];exact h2.2 q hq
 env:=fun i k v _ hk hv=>h.flush hvs i k v hk hv
end
end Go.Am
namespace Go.Am
section
variable {c:ax} {cf:aG} {ops:Array Oper}
def step1 (c:ax) (cf:aG) (ops:Array Oper) (id:Nat) (o:Oper) (s:St):Option St:=
 match bF ops s.t o.guard with
 | some true=>match bN c cf o.op s.t s.b id with
  | some (v,e)=>match e.on s.b id with
   | some bs'=>some {t:=bo s.t o.dst v,b:=bs'}
   | .none=> .none
  | .none=> .none
 | some false=>some {t:=bo s.t o.dst (.aO []),b:=s.b}
 | .none=> .none
def gJ (c:ax) (cf:aG) (ops:Array Oper) (dr:Bool) (base i:Nat) (o:Oper) (s:St):Option St:=
 match dr with
 | true=>aT c cf ops base i o s
 | false=>step1 c cf ops (b8 ops.toList i base) o s
def yC (c:ax) (cf:aG) (ops:Array Oper) (dr:Bool) (base:Nat):List Oper→Nat→St→Option St
 | [],_,s=>some s
 | o::r,i,s=>match gJ c cf ops dr base i o s with
  | some s'=>yC c cf ops dr base r (i+1) s'
  | .none=> .none
theorem CG (base:Nat): ∀(l:List Oper) (i:Nat) (s:St),E7 c cf ops base l i s=yC c cf ops true base l i s
 | [],_,_=>rfl
 | o::r,i,s=>by
  simp only [E7,yC,gJ];cases aT c cf ops base i o s with
  | none=>rfl
  | some s'=>exact CG base r _ _
theorem wZ: ∀(l:List Oper) (i base:Nat) (o:Oper),l[i]?=some o→b8 l (i+1) base=next (b8 l i base) o.op
 | [],i,base,o,h=>by simp at h
 | p::r,0,base,o,h=>by
  simp at h;subst h;cases r <;> rfl
 | p::r,i+1,base,o,h=>by
  simp at h;simp only [b8];exact wZ r i _ o h
theorem Aq (b k:Nat) (op:Op):next (b+k) op=b+next k op:=by unfold next;split <;> omega
theorem Ar (b:Nat): ∀(l:List Oper) (i k:Nat),b8 l i (b+k)=b+b8 l i k
 | _,0,_=>by cases ‹List Oper› <;> rfl
 | [],_+1,_=>rfl
 | o::r,i+1,k=>by simp only [b8];rw [Aq];exact Ar b r i _
theorem mz (bf:List Nat) (i b:Nat): ∀(l:List Oper) (j k:Nat),cR bf i l j (b+k)=(cR bf i l j k).map (b+ ·)
 | [],_,_=>rfl
 | o::r,j,k=>by
  simp only [cR];split <;> simp only [Aq,mz bf i b r,List.map_cons]
theorem qa (base:Nat): ∀(l:List Oper) (i:Nat) (t:Env) (bs:List ab),(∀j,l[j]?=ops.toList[i+j]?)→oM c cf ops l (b8 ops.toList i base) t bs=yC c cf ops false base l i ⟨t,bs⟩
 | [],_,_,_,_=>rfl
 | o::r,i,t,bs,h=>by
  have ho:ops.toList[i]?=some o:=by have:=h 0;rw [Nat.add_zero] at this;rw [←this];rfl
  have hr: ∀j,r[j]?=ops.toList[i+1+j]?:=fun j=>by rw [show i+1+j=i+(j+1) by omega,←h (j+1)];rfl
  simp only [oM,yC,gJ,step1];rw [←wZ _ _ _ _ ho];cases bF ops t o.guard with
  | none=>rfl
  | some b=>cases b with
   | false=>exact qa base r _ _ _ hr
   | true=>
    simp only;cases bN c cf o.op t bs (b8 ops.toList i base) with
    | none=>rfl
    | some p=>
     obtain ⟨v,e⟩:=p;simp only;cases e.on bs (b8 ops.toList i base) with
     | none=>rfl
     | some bs'=>exact qa base r _ _ _ hr
theorem yD {L M:List Nat} (h: ∀x∈M,x∈L) (bs:List ab):Sub (aR L bs) (aR M bs):=fun k hk=>by
 simp only [ab.at,List.getD_eq_getElem?_getD] at hk⊢;rw [bR] at hk;rw [bR,bR];by_cases h1:k∈L∧k<bs.length
 ·rw [if_pos h1] at hk;simp at hk
 ·rw [if_neg h1,if_neg (fun h2=>h1 ⟨h _ h2.1,h2.2⟩)]
variable {base:Nat} {kl:List Nat} {keep:List Nat} {nt:Nat} {env:List (Option AV)} {bs:List ab} {σ:List (Nat×E)} {t:Env}
theorem kc.want (h:kc c keep nt env bs σ t) {g:Option (Nat×Bool)} {x:E} {w:Bool} (hg:guardOf ops keep σ g=some (some (x,w))) {u:AV} (hu:bq c env bs x=some u):bF ops t g=sv (some u) w:=by
 unfold guardOf at hg;split at hg
 ·cases hg
 ·split at hg
  ·cases hg
  ·rename_i d hd;split at hg
   ·rename_i e he;cases hg;simp only [bF,hd];rw [h.res he hu];simp only [sv];cases u <;> rfl
   ·cases hg
theorem xa {g:Option (Nat×Bool)} (hg:guardOf ops keep σ g=some none):bF ops t g=some true:=by
 unfold guardOf at hg;split at hg
 ·rfl
 ·split at hg
  ·cases hg
  ·split at hg <;> cases hg
theorem Jw (hs: ∀i,i<nt→t.has i=true) (d:Option Nat) (v:AV): ∀i,i<nt→(bo t d v).has i=true:=fun i hi=>by
 cases d with
 | none=>exact hs i hi
 | some j=>simp only [bo];rw [Tr.fg];exact hs i hi
theorem Jx {op:Op} {p:Nat} (h:gj op=some p):p∈op.operands.toList.filterMap Hj:=by
 refine List.mem_filterMap.2 ⟨.tmp p,?_,rfl⟩;unfold gj at h;split at h
 ·rename_i q hq;cases h;unfold eL at hq;split at hq
  ·cases hq;simp [Op.operands]
  ·rename_i args ts;split at hq
   ·rename_i q2 hq2;cases hq;simp only [Op.operands,Call.operands];simp [hq2]
   ·cases hq
  ·cases hq
 ·unfold cS at h;split at h
  ·cases h;simp [Op.operands]
  ·cases h;simp [Op.operands]
  ·cases h
theorem Jy {c:ax} {ops:Array Oper} {j:Nat} {op:Op} {t:Env} (h: ∀p q,gj op=some p→fN ops j p=some q→t.get .any p=t.get .any q):bY c ops j op t=true:=by
 unfold bY;split
 ·rfl
 ·rename_i p hp;split
  ·rfl
  ·rename_i q hq;rw [h p q hp hq];simp
theorem As (h:kc c keep nt env bs σ t) {j:Nat} {op:Op} (ha: ∀p,gj op=some p→ ∀e,yu keep σ p=some e→ ∃u,bq c env bs e=some u) {g:Option (E×Bool)} (hgs: ∀x,bq c env bs (eE g x)=bq c env bs x) (hr:Ak c ops keep g σ true j op=true):bY c ops j op t=true:=by
 cases hany:(ue c ops || nq ops) with
 | false=>rw [Bool.or_eq_false_iff] at hany;exact Ha hany.1 hany.2
 | true=>
  refine Jy fun p q hp hq=> ?_;unfold Ak at hr;rw [hp,hany] at hr;simp only [Bool.and_self,hq] at hr;split at hr
  ·rename_i a b ha' hb;have hab:=b9 hr;obtain ⟨u,hu⟩:=ha p hp a ha';rw [h.res ha' hu,h.res hb (by rw [←hgs b,←hab,hgs a];exact hu)]
  ·cases hr
theorem Au (h:kc c keep nt env bs σ t) {g:Option (E×Bool)} {j:Nat} {op:Op} {e:E} {v:AV} (hp:mq c (fun x=>(yv keep σ x).map (eE g)) op=some e) (hgs: ∀x,bq c env bs (eE g x)=bq c env bs x) (hv:bq c env bs e=some v) (hr:Ak c ops keep g σ true j op=true):bY c ops j op t=true:=by
 refine As h (fun p hpk a ha=> ?_) hgs hr
 have one: ∀x,((yv keep σ (.tmp p)).map (eE g))=some x→(∃u,bq c env bs x=some u)→ ∃u,bq c env bs a=some u:=fun x hx ⟨u,hu⟩=>by
  simp only [yv,ha,Option.map_some,Option.some.injEq] at hx;subst hx;exact ⟨u,by rw [←hgs];exact hu⟩
 unfold gj at hpk;split at hpk
 ·rename_i p' hpk';cases hpk;unfold eL at hpk';split at hpk'
  ·cases hpk';simp only [mq,gH,Option.map_eq_some_iff] at hp;obtain ⟨x,hx,rfl⟩:=hp;refine one x (by simpa using hx) ?_;simp only [bq] at hv;cases hx2:bq c env bs x with
   | none=>rw [hx2] at hv;cases hv
   | some u=>exact ⟨u,rfl⟩
  ·rename_i args ts;split at hpk'
   ·rename_i p' hargs;cases hpk';simp only [mq,hargs] at hp;split at hp
    ·rename_i x _ _ hxx;simp only [List.cons.injEq,and_true] at hxx;subst hxx;split at hp
     ·simp only [gH,Option.map_eq_some_iff] at hp;obtain ⟨x,hx,rfl⟩:=hp;refine one x (by simpa using hx) ?_;simp only [bq] at hv;cases hx2:bq c env bs x with
      | none=>rw [hx2] at hv;cases hv
      | some u=>exact ⟨u,rfl⟩
     ·simp only [gH,Option.map_eq_some_iff] at hp;obtain ⟨x,hx,rfl⟩:=hp;refine one x (by simpa using hx) ?_;simp only [bq] at hv;cases hx2:bq c env bs x with
      | none=>rw [hx2] at hv;cases hv
      | some u=>exact ⟨u,rfl⟩
    ·cases hp
   ·cases hpk'
  ·cases hpk'
 ·unfold cS at hpk;split at hpk
  ·rename_i hno;simp [eL] at hno
  ·cases hpk;rename_i ty lo hi _;simp only [mq] at hp
   have fin: ∀x,((yv keep σ (.tmp p)).map (eE g))=some x→bq c env bs x≠none→ ∃u,bq c env bs a=some u:=fun x hx hne=>by
    refine one x hx ?_;cases hx2:bq c env bs x with
    | none=>exact absurd hx2 hne
    | some u=>exact ⟨u,rfl⟩
   split at hp
   ·split at hp
    ·simp only [gH,Option.map_eq_some_iff] at hp;obtain ⟨x,hx,rfl⟩:=hp;exact fin x (by simpa using hx) (fun e=>by simp [bq,e,D9] at hv)
    ·unfold pW at hp;split at hp
     ·rename_i x y hx hy;cases hp;exact fin x hx (fun e=>by simp [bq,e,Jp] at hv)
     ·cases hp
    ·unfold pW at hp;split at hp
     ·rename_i x y hx hy;cases hp;exact fin x hx (fun e=>by simp [bq,e,Jp] at hv)
     ·cases hp
    ·unfold Ag at hp;split at hp
     ·rename_i x y z hx hy hz;cases hp;exact fin x hx (fun e=>by simp [bq,e,Qy] at hv)
     ·cases hp
   ·cases hp
  ·cases hpk
theorem uN {dr:Bool} {i:Nat} {o:Oper} {v:AV} (hw:bF ops t o.guard=some true) (hd: ∀(cf:aG) bs' id,Sub (seen base kl bs) bs'→bN c cf o.op t bs' id=some (v,.none)) (hk:dr=true→ ∀x∈cR (fC ops) i ops.toList 0 0,x∈kl) (hroot:dr=true→bY c ops i o.op t=true):
  gJ c cf ops dr base i o ⟨t,bs⟩=some ⟨bo t o.dst v,bs⟩:=by
 cases dr with
 | false=>simp only [gJ,step1,hw];rw [hd _ _ _ (dK _ _)];rfl
 | true=>
  simp only [gJ,aT,hw];split
  ·rw [hd _ _ _ (dK _ _)];rfl
  ·rw [hd _ _ _ ?_]
   ·simp only [hroot rfl]
   unfold dp;refine yD (fun x hx=> ?_) bs;rw [show base=base+0 from rfl,mz] at hx;obtain ⟨y,hy,rfl⟩:=List.mem_map.1 hx;exact List.mem_map_of_mem (hk rfl y hy)
theorem uO {dr:Bool} {i:Nat} {o:Oper} (hw:bF ops t o.guard=some false):gJ c cf ops dr base i o ⟨t,bs⟩=some ⟨bo t o.dst (.aO []),bs⟩:=by cases dr <;> simp only [gJ,step1,aT,hw]
theorem Av {i:Nat} {v:AV}: ∀{vs:List (Nat×AV)},(∀p∈vs,p.1=i→p.2=v)→(∃p∈vs,p.1=i)→look vs i=v
 | [],_,⟨_,h,_⟩=>by cases h
 | (j,u)::r,h1,⟨p,hp,hpi⟩=>by
  simp only [look];split
  ·rename_i hij;exact h1 (j,u) List.mem_cons_self hij.symm
  ·rename_i hij;refine Av (fun q hq=>h1 q (List.mem_cons_of_mem _ hq)) ?_;rcases List.mem_cons.1 hp with rfl | hp
   ·exact absurd hpi.symm hij
   ·exact ⟨p,hp,hpi⟩
theorem Eh {g:Option (E×Bool)} (hg: ∀e,bq c env bs (eE g e)=bq c env bs e): ∀{l:List Nat} {xs:List (Nat×E)} {vs:List (Nat×AV)},rj keep σ l=some xs→nV c env bs (xs.map fun p=>(p.1,eE g p.2))=some vs→ ∀i∈l,∀e,yu keep σ i=some e→ ∃u,bq c env bs e=some u
 | [],_,_,_,_=>fun i hi=>by cases hi
 | i::r,xs,vs,h1,h2=>by
  simp only [rj] at h1;split at h1
  ·rename_i e l he hl;cases h1;simp only [List.map_cons,nV] at h2;split at h2
   ·rename_i v hv;split at h2
    ·rename_i vs' hvs';intro j hj e' he';rcases List.mem_cons.1 hj with rfl | hj
     ·rw [he] at he';cases he';exact ⟨v,by rw [←hg];exact hv⟩
     ·exact Eh hg hl hvs' j hj e' he'
    ·cases h2
   ·cases h2
  ·cases h1
theorem kc.args (h:kc c keep nt env bs σ t) {g:Option (E×Bool)} (hg: ∀e,bq c env bs (eE g e)=bq c env bs e): ∀{l:List Nat} {xs:List (Nat×E)} {vs:List (Nat×AV)},rj keep σ l=some xs→nV c env bs (xs.map fun p=>(p.1,eE g p.2))=some vs→(∀p∈vs,p.2=t.get .any p.1)∧ ∀i∈l,∃p∈vs,p.1=i
 | [],xs,vs,h1,h2=>by
  cases h1;cases h2;exact ⟨fun p hp=>(by cases hp),fun i hi=>by cases hi⟩
 | i::r,xs,vs,h1,h2=>by
  simp only [rj] at h1;split at h1
  ·rename_i e l he hl;cases h1;simp only [List.map_cons,nV] at h2;split at h2
   ·rename_i v hv;split at h2
    ·rename_i vs' hvs';cases h2;obtain ⟨k1,k2⟩:=kc.args h hg hl hvs';rw [hg] at hv;refine ⟨fun p hp=> ?_,fun j hj=> ?_⟩
     ·rcases List.mem_cons.1 hp with rfl | hp
      ·exact (h.res he hv).symm
      ·exact k1 p hp
     ·rcases List.mem_cons.1 hj with rfl | hj
      ·exact ⟨_,List.mem_cons_self,rfl⟩
      ·obtain ⟨p,hp,hpi⟩:=k2 j hj;exact ⟨p,List.mem_cons_of_mem _ hp,hpi⟩
    ·cases h2
   ·cases h2
  ·cases h1
theorem kF {dr:Bool} (hk:dr=true→ ∀i,∀x∈cR (fC ops) i ops.toList 0 0,x∈kl): ∀(l:List Oper) (i:Nat) (σ:List (Nat×E)) (its:List It) (env:List (Option AV)) (bs:List ab) (t:Env) (env':List (Option AV)) (bs':List ab),
  lq c ops keep nt dr l i σ=some its→kc c keep nt env (seen base kl bs) σ t→bh c cf base kl its env bs=some (env',bs')→ ∃t',yC c cf ops dr base l i ⟨t,bs⟩=some ⟨t',bs'⟩∧kc c keep nt env' (seen base kl bs') [] t'
 | [],i,σ,its,env,bs,t,env',bs',hl,hr,hrun=>by
  simp only [lq,Option.some.injEq] at hl;subst hl;refine ⟨t,?_⟩;have hu:ka ([]:List (Nat×E)):=fun i e h=>by cases h
  unfold Ed at hrun;split at hrun
  ·rename_i hfl;simp only [bh,Option.some.injEq,Prod.mk.injEq] at hrun;obtain ⟨rfl,rfl⟩:=hrun;refine ⟨rfl,hr.len,hr.has,hu,fun i e v h=>(by cases h),fun i k v _ hk hv=> ?_⟩;exact hr.flush (vs:= []) (by rw [hfl];rfl) i k v hk hv
  ·simp only [bh] at hrun;split at hrun
   ·rename_i vs hvs;simp only [Option.some.injEq,Prod.mk.injEq] at hrun;obtain ⟨rfl,rfl⟩:=hrun;exact ⟨rfl,by rw [j8];exact hr.len,hr.has,hu,fun i e v h=>(by cases h),fun i k v _ hk hv=>hr.flush hvs i k v hk hv⟩
   ·cases hrun
 | o::r,i,σ,its,env,bs,t,env',bs',hl,hr,hrun=>by
  simp only [lq] at hl;split at hl
  ·cases hl
  ·rename_i g hg;split at hl
   ·-- an expression
    rename_i e d hpe hdst;replace hpe:=Aj hpe;split at hl
    ·rename_i hdnt;split at hl
     ·rename_i its' hits
      have key:(bq c env (seen base kl bs) (uE g e)).isSome=true∧bh c cf base kl its' env bs=some (env',bs'):=by
       split at hl
       ·rename_i hcov;cases hl;refine ⟨?_,hrun⟩;unfold covered at hcov;rw [Bool.or_eq_true] at hcov;rcases hcov with hc | hc
        ·cases hw:uE g e <;> rw [hw] at hc <;> simp only [E.sure,Bool.false_eq_true] at hc;rfl
        ·rw [List.any_eq_true] at hc;obtain ⟨f,hf,hwf⟩:=hc;exact CD hwf (rq hrun f hf)
       ·cases hl;simp only [bh,nV] at hrun;split at hrun
        ·rename_i vs hvs;split at hvs
         ·rename_i v hv;cases hvs;refine ⟨by unfold seen;rw [hv];rfl,?_⟩;simp only [dj] at hrun;rw [List.set_eq_of_length_le (by rw [hr.len];exact Nat.le_refl _)] at hrun;exact hrun
         ·cases hvs
        ·cases hrun
      obtain ⟨hsome,hrun⟩:=key;obtain ⟨v,hv⟩:=Option.isSome_iff_exists.1 hsome
      have hstep:gJ c cf ops dr base i o ⟨t,bs⟩=some ⟨bo t o.dst v,bs⟩:=by
       have pure: ∀(hgs: ∀x,bq c env (seen base kl bs) (eE g x)=bq c env (seen base kl bs) x) (hev:bq c env (seen base kl bs) e=some v) (cf:aG) (bs':List ab) (id:Nat),Sub (seen base kl bs) bs'→bN c cf o.op t bs' id=some (v,.none):=by intro hgs hev cf bs' id hs;refine uA hs trivial ?_;rw [Ho];refine Jt (ρ:=fun x=>(yv keep σ x).map (eE g)) (fun x e v hx hv=> ?_) hpe hev id;simp only [Option.map_eq_some_iff] at hx;obtain ⟨e0,h0,rfl⟩:=hx;rw [hgs] at hv;exact hr.yv h0 hv
       cases g with
       | none=>exact uN (xa hg) (pure (fun _=>rfl) hv) (fun h=>hk h i) (fun h=>by subst h;exact Au hr (g:=none) hpe (fun _=>rfl) hv (Bool.and_eq_true _ _▸hdnt:_∧_).2)
       | some q=>
        obtain ⟨x,w⟩:=q;simp only [uE,bq] at hv;rcases gI hv with ⟨h1,h2⟩ | ⟨h1,rfl⟩ | ⟨⟨l,h1⟩,rfl⟩
        ·refine uN ?_ (pure (fun y=>iG h1 y) h2) (fun h=>hk h i) (fun h=>by subst h;exact Au hr (g:=some (x,w)) hpe (fun y=>iG h1 y) h2 (Bool.and_eq_true _ _▸hdnt:_∧_).2);rw [hr.want hg h1];simp [sv]
        ·refine uO ?_;rw [hr.want hg h1];cases w <;> rfl
        ·refine uO ?_;rw [hr.want hg h1];rfl
      rw [hdst] at hstep;have hd:t.has d=true:=hr.has d (by have h:=(Bool.and_eq_true _ _▸hdnt:_∧_).1;simpa using h)
      have hrel:kc c keep nt env (seen base kl bs) ((d,uE g e)::σ.filter fun p=>p.1 !=d) (t.set d v):=by
       refine ⟨hr.len,fun i hi=>by rw [Tr.fg];exact hr.has i hi,hr.uniq.cons _ _,fun j f u hj hu=> ?_,fun j k u hj hk hu=> ?_⟩
       ·simp only [dh] at hj;split at hj
        ·rename_i hjd;subst hjd;cases hj;rw [hv] at hu;cases hu;exact Tr.dw _ _ _ hd
        ·rename_i hjd;rw [Tr.bc _ _ _ (Ne.symm hjd)];exact hr.Ms j f u (hr.uniq.look hj).1 hu
       ·simp only [dh] at hj;split at hj
        ·cases hj
        ·rename_i hjd;rw [Tr.bc _ _ _ (Ne.symm hjd)];refine hr.env j k u ?_ hk hu;cases hlj:dh σ j with
         | none=>rfl
         | some f=>obtain ⟨f',hf'⟩:=oZ (σ:=σ.filter fun p=>p.1 !=d) (List.mem_filter.2 ⟨kE hlj,by simpa using hjd⟩);rw [hj] at hf';cases hf'
      obtain ⟨t',h1,h2⟩:=kF hk r (i+1) _ _ env bs _ env' bs' hits hrel hrun;refine ⟨t',?_,h2⟩;simp only [yC,hstep];exact h1
     ·cases hl
    ·cases hl
   ·-- an operation
    split at hl
    ·cases hl
    ·rename_i g' hg';split at hl
     ·cases hl
     ·rename_i xs hxs;split at hl
      ·rename_i hdok;split at hl
       ·rename_i its' hits;simp only [Option.some.injEq] at hl;subst hl
        -- the variables are set
        obtain ⟨vs,hvs,hrun⟩: ∃vs,nV c env (seen base kl bs) (dm keep σ keep 0)=some vs∧bh c cf base kl (.aA (tC c ops dr i o.op) (b8 ops.toList i 0) (Ah keep o.dst) g' o.op (xs.map fun p=>(p.1,eE g' p.2))::its') (dj env vs) bs=some (env',bs'):=by
         unfold Ed at hrun;split at hrun
         ·rename_i hfl;exact ⟨[],by rw [hfl];rfl,hrun⟩
         ·rw [bh] at hrun;split at hrun
          ·rename_i vs hvs;exact ⟨vs,hvs,hrun⟩
          ·cases hrun
        have hr1:=hr.Jv hvs;have hall:=hr.flush hvs
        -- what is behind the operation
        have after: ∀(v:AV) (bs2:List ab),gJ c cf ops dr base i o ⟨t,bs⟩=some ⟨bo t o.dst v,bs2⟩→bh c cf base kl its' (uC (dj env vs) (Ah keep o.dst) v) bs2=some (env',bs')→
          ∃t',yC c cf ops dr base (o::r) i ⟨t,bs⟩=some ⟨t',bs'⟩∧kc c keep nt env' (seen base kl bs') [] t':=by
         intro v bs2 hstep hrun2
         have hrel:kc c keep nt (uC (dj env vs) (Ah keep o.dst) v) (seen base kl bs2) (KO keep o.dst (wW keep (dm keep σ keep 0) σ)) (bo t o.dst v):=by
          refine ⟨?_,Jw hr.has _ _,hr1.uniq.filter _,fun j f u hj hu=> ?_,fun j k u hj hk hu=> ?_⟩
          ·have:=hr1.len;cases Ah keep o.dst with
           | none=>exact this
           | some p=>simp only [uC,List.length_set];exact this
          ·obtain ⟨h1,h2⟩:=hr1.uniq.look hj;simp only [Bool.and_eq_true,Bool.not_eq_true'] at h2;rw [uJ h2.1 (bs':=seen base kl bs)] at hu;cases hd:o.dst with
           | none=>rw [hd] at hu;exact hr1.Ms j f u h1 hu
           | some d=>
            rw [hd] at hu h2;simp only [Bool.and_eq_true,bne_iff_ne] at h2;simp only [bo];rw [Tr.bc _ _ _ (Ne.symm h2.2.1)];refine hr1.Ms j f u h1 ?_;simp only [Ah] at hu;cases hp:posOf keep d with
            | none=>rw [hp] at hu;exact hu
            | some p=>rw [hp] at hu h2;simp only [uC] at hu;rw [yB (by simpa using h2.2.2)] at hu;exact hu
          ·cases hd:o.dst with
           | none=>rw [hd] at hu;exact hall j k u hk hu
           | some d=>
            rw [hd] at hu;have hdn:d<nt:=by have hdok0:=(Bool.and_eq_true _ _▸hdok:_∧_).1;have hdok1:=(Bool.and_eq_true _ _▸hdok0:_∧_).1;rw [hd] at hdok1;simpa [KP] using hdok1
            simp only [bo];by_cases hjd:j=d
            ·subst hjd;simp only [Ah,hk,uC] at hu;have hlt:k<(dj env vs).length:=by rw [hr1.len];exact (List.getElem?_eq_some_iff.1 (cX hk)).1
             simp [List.getD_eq_getElem?_getD,hlt] at hu;subst hu;exact Tr.dw _ _ _ (hr.has j hdn)
            ·rw [Tr.bc _ _ _ (Ne.symm hjd)];refine hall j k u hk ?_;simp only [Ah] at hu;cases hp:posOf keep d with
             | none=>rw [hp] at hu;exact hu
             | some p=>rw [hp] at hu;simp only [uC] at hu;have:p≠k:=fun e=>hjd (rA hk (e▸hp));simp only [List.getD_eq_getElem?_getD] at hu⊢;rw [List.getElem?_set_ne this] at hu;exact hu
         obtain ⟨t',h1,h2⟩:=kF hk r (i+1) _ _ _ bs2 _ env' bs' hits hrel hrun2;refine ⟨t',?_,h2⟩;simp only [yC,hstep];exact h1
        simp only [bh] at hrun;split at hrun
        ·-- it is wanted
         rename_i hw
         have hwant:bF ops t o.guard=some true∧ ∀e,bq c (dj env vs) (seen base kl bs) (eE g' e)=bq c (dj env vs) (seen base kl bs) e:=by
          cases g' with
          | none=>exact ⟨xa hg',fun _=>rfl⟩
          | some q=>
           obtain ⟨x,w⟩:=q;simp only [sx] at hw;cases hx:bq c (dj env vs) (seen base kl bs) x with
           | none=>rw [hx] at hw;cases hw
           | some u=>
            rw [hx] at hw;refine ⟨by rw [hr1.want hg' hx];exact hw,fun e=> ?_⟩;simp only [sv] at hw;split at hw
            ·rename_i b hb;cases hb;have:b=w:=by simpa using hw
             subst this;exact iG hx e
            ·cases hw
            ·cases hw
         split at hrun
         ·rename_i vs' hvs';obtain ⟨k1,k2⟩:=hr1.args hwant.2 hxs hvs'
          have hops: ∀x∈o.op.operands,Qz vs' x=ev t x:=by
           intro x hx;cases x with
           | tmp j=>refine Av (fun p hp hpj=>by rw [k1 p hp,hpj];rfl) (k2 j (List.mem_append_left _ ?_));exact List.mem_filterMap.2 ⟨.tmp j,by simpa using hx,rfl⟩
           | const u=>rfl
           | func f=>rfl
           | global g=>rfl
          have hdo: ∀(cf:aG) bs3 id,dG c cf o.op (Qz vs') bs3 id=bN c cf o.op t bs3 id:=fun cf bs3 id=>by rw [Ho];exact Ap c cf hops bs3 id
          have hid:base+b8 ops.toList i 0=b8 ops.toList i base:=by rw [←Ar];rfl
          split at hrun
          ·rename_i v bs2 heff;refine after v bs2 ?_ hrun;unfold Fq at heff;split at heff
           ·rename_i hm;rw [hdo,hid] at heff;unfold Eb at heff
            have hm':dr=true→alone ops i=true:=fun h=>by
             subst h;unfold tC at hm;split at hm
             ·cases hm
             ·rename_i ha;simpa using ha
            split at heff
            ·rename_i v' e hdoe;split at heff
             ·rename_i bs3 hon;cases heff;cases dr with
              | false=>simp only [gJ,step1,hwant.1,hdoe,hon]
              | true=>simp only [gJ,aT,hwant.1,hm' rfl,hdoe,hon]
             ·cases heff
            ·cases heff
           ·rename_i ms hm;unfold tC at hm;split at hm
            ·rename_i ha;simp only [Bool.and_eq_true,Bool.not_eq_true'] at ha;cases hm;simp only [List.tail_cons,List.headD_cons] at heff;rw [Ai] at heff;rw [hdo,hid] at heff
             have hmask:aR ((cR (fC ops) i ops.toList 0 0).map (base+ ·)) bs=dp ops base i bs:=by unfold dp;rw [←mz];rfl
             rw [hmask] at heff;rw [ha.1]
             have hrt:bY c ops i o.op t=true:=by have h2:=(Bool.and_eq_true _ _▸hdok:_∧_).2;rw [ha.1] at h2;exact As hr1 (fun p hp=>Eh hwant.2 hxs hvs' p (List.mem_append_left _ (Jx hp))) hwant.2 h2
             unfold Ea at heff;split at heff
             ·rename_i v' hdoe;cases heff;simp only [gJ,aT,hwant.1,ha.2,hdoe,hrt]
             ·rename_i v' x hdoe;split at heff
              ·rename_i hask;split at heff
               ·rename_i hdead;cases heff;simp only [gJ,aT,hwant.1,ha.2,hdoe,hask,hdead]
               ·cases heff
              ·cases heff
             ·rename_i v' kk ty cs hdoe;split at heff
              ·rename_i hcalm;cases heff;rw [Bool.and_eq_true] at hcalm;have hcond:(dr&& !alone ops i&&cp o.op)=true:=by rw [ha.1,ha.2,hcalm.1];rfl
               have hcond2:(dr&& !alone ops i&&(cp o.op || (eT o.op&&bG ops i o.op)))=true:=by rw [ha.1,ha.2,hcalm.1];rfl
               have hfit:bG ops i o.op=true:=by have hdok0:=(Bool.and_eq_true _ _▸hdok:_∧_).1;have h2:=(Bool.and_eq_true _ _▸hdok0:_∧_).2;unfold KQ at h2;rw [hcond] at h2;exact h2
               have hnear:oV c ops dr i o.op=gE ops i:=by unfold oV;rw [hcond2]
               have hall2:((gE ops i).all fun p=>eZ kk (t.get .any p))=true:=by rw [List.all_eq_true];intro p hp;obtain ⟨q,hq,hqp⟩:=k2 p (List.mem_append_right _ (by rw [hnear];exact hp));have h3:=hcalm.2;unfold Af at h3;rw [List.all_eq_true] at h3;have h4:=h3 q hq;rw [k1 q hq,hqp,wN hfit hp,Bool.false_or] at h4;exact h4
               simp only [gJ,aT,hwant.1,ha.2,hdoe,hfit,sf,hcalm.1,hrt,hall2,Bool.and_self]
              ·cases heff
             ·rename_i v' kk sh sz es hdoe;split at heff
              ·rename_i hcalm;cases heff;rw [Bool.and_eq_true] at hcalm
               have hgr:(eT o.op&&bG ops i o.op)=true:=by have h1:=hcalm.1;rw [Fs] at h1;exact h1
               have hfit:bG ops i o.op=true:=(Bool.and_eq_true _ _▸hgr:_∧_).2;have hgrow:eT o.op=true:=(Bool.and_eq_true _ _▸hgr:_∧_).1;have hcond2:(dr&& !alone ops i&&(cp o.op || (eT o.op&&bG ops i o.op)))=true:=by rw [ha.1,ha.2,hgr];simp
               have hnear:oV c ops dr i o.op=gE ops i:=by unfold oV;rw [hcond2]
               have hall2:((gE ops i).all fun p=>eZ kk (t.get .any p))=true:=by rw [List.all_eq_true];intro p hp;obtain ⟨q,hq,hqp⟩:=k2 p (List.mem_append_right _ (by rw [hnear];exact hp));have h3:=hcalm.2;unfold Af at h3;rw [List.all_eq_true] at h3;have h4:=h3 q hq;rw [k1 q hq,hqp,wN hfit hp,Bool.false_or] at h4;exact h4
               simp only [gJ,aT,hwant.1,ha.2,hdoe,hfit,sf,hgrow,hrt,hall2,Bool.and_self]
              ·cases heff
             ·rename_i v' bx hdoe;split at heff
              ·rename_i hcalm;cases heff;rw [Bool.and_eq_true,Ai] at hcalm;have hap:=hcalm.1
               have hcv:eo o.op=true:=by have h1:=hap;simp only [bQ,Bool.and_eq_true] at h1;exact zW h1.1.1
               obtain ⟨hns,hng⟩:=wX hcv
               have hnear:oV c ops dr i o.op=jE ops i:=by unfold oV;rw [hns,hng,ha.1,ha.2,hap];rfl
               have hall2:((jE ops i).all fun p=>iU bs.length (t.get .any p))=true:=by rw [List.all_eq_true];intro p hp;obtain ⟨q,hq,hqp⟩:=k2 p (List.mem_append_right _ (by rw [hnear];exact hp));have h3:=hcalm.2;rw [List.all_eq_true] at h3;have h4:=h3 q hq;rw [k1 q hq,hqp] at h4;exact h4
               rw [hap] at hdoe;simp only [gJ,aT,hwant.1,ha.2,hap,hdoe,hall2,Bool.and_self]
              ·cases heff
             ·cases heff
            ·cases hm
          ·cases hrun
         ·cases hrun
        ·-- it is not
         rename_i hw;refine after (.aO []) bs (uO ?_) hrun;cases g' with
         | none=>simp [sx] at hw
         | some q=>
          obtain ⟨x,w⟩:=q;simp only [sx] at hw;cases hx:bq c (dj env vs) (seen base kl bs) x with
          | none=>rw [hx] at hw;cases hw
          | some u=>rw [hx] at hw;rw [hr1.want hg' hx];exact hw
        ·cases hrun
       ·cases hl
      ·cases hl
end
end Go.Am
