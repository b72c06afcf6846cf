/-
 What expressions ask, and what they hang on. The plainer form of a region is sound: where its steps have an end, the machine's operations have it, too. The plainer form of a region is sound: where its steps have an end, the machine's operations have it, too. The plainer form of a region is sound: the operations one by one.
-/
import Derived.Test.YtfnkchadeaedlaaGreatDoorAmIr
set_option linter.all false
namespace Go.Am
theorem zI: ∀{a b:List UInt8},Dy a b=true→a=b
 | [], [],_=>rfl
 | [],_::_,h=>by cases h
 | _::_, [],h=>by cases h
 | a::l,b::m,h=>by
  simp only [Dy,Bool.and_eq_true,beq_iff_eq] at h;rw [h.1,zI h.2]
theorem EC: ∀{a b:AV},B7 a b=true→a=b:=by
 intro a b h;unfold B7 at h;split at h
 ·simp only [Bool.and_eq_true,beq_iff_eq] at h;rw [h.1,h.2]
 ·rw [beq_iff_eq] at h;rw [h]
 ·rw [zI h]
 ·rfl
 ·cases h
theorem b9: ∀{a b:E},aJ a b=true→a=b:=by
 intro a
 induction a <;> intro b h <;> cases b <;> simp only [aJ,Bool.and_eq_true,beq_iff_eq,Bool.false_eq_true] at h
 case cst.cst=>rw [EC h]
 case var.var=>rw [h]
 case bin.bin ih1 ih2 _ _ _ _=>obtain ⟨⟨⟨rfl,rfl⟩,h1⟩,h2⟩:=h;rw [ih1 h1,ih2 h2]
 case un.un ih _ _=>obtain ⟨rfl,h1⟩:=h;rw [ih h1]
 case pick.pick ih1 ih2 ih3 _ _ _=>obtain ⟨⟨h1,h2⟩,h3⟩:=h;rw [ih1 h1,ih2 h2,ih3 h3]
 case guard.guard ih1 ih2 _ _ _=>obtain ⟨⟨h1,rfl⟩,h3⟩:=h;rw [ih1 h1,ih2 h3]
 case and.and ih1 ih2 _ _=>rw [ih1 h.1,ih2 h.2]
 case or.or ih1 ih2 _ _=>rw [ih1 h.1,ih2 h.2]
 case index.index ih1 ih2 _ _ _=>obtain ⟨⟨rfl,h1⟩,h2⟩:=h;rw [ih1 h1,ih2 h2]
 case field.field ih _ _ _=>obtain ⟨⟨rfl,h1⟩,rfl⟩:=h;rw [ih h1]
 case extract.extract ih _ _=>obtain ⟨h1,rfl⟩:=h;rw [ih h1]
 case conv.conv ih _ _ _=>obtain ⟨⟨rfl,rfl⟩,h1⟩:=h;rw [ih h1]
 case toInt.toInt ih _ _=>obtain ⟨rfl,h1⟩:=h;rw [ih h1]
 case len.len ih _ _=>obtain ⟨rfl,h1⟩:=h;rw [ih h1]
 case lenS.lenS ih _=>rw [ih h]
 case slA.slA ih _=>rw [ih h]
 case slL.slL ih1 ih2 _ _=>rw [ih1 h.1,ih2 h.2]
 case slH.slH ih1 ih2 _ _=>rw [ih1 h.1,ih2 h.2]
 case slB.slB ih1 ih2 ih3 _ _ _=>rw [ih1 h.1.1,ih2 h.1.2,ih3 h.2]
 case load.load ih _ _=>obtain ⟨rfl,h1⟩:=h;rw [ih h1]
 case faddr.faddr ih _ _ _=>obtain ⟨⟨rfl,h1⟩,rfl⟩:=h;rw [ih h1]
 case iaddr.iaddr ih1 ih2 _ _ _=>obtain ⟨⟨rfl,h1⟩,h2⟩:=h;rw [ih1 h1,ih2 h2]
 case nilck.nilck ih _=>rw [ih h]
theorem dT {o:Out} {v:AV} (h:qJ o=some v):o=some (v,.none):=by
 unfold qJ at h;split at h
 ·cases h;rfl
 ·cases h
theorem dw {x:Option AV} {f:AV→Option AV} {v:AV} (h:Dv x f=some v): ∃a,x=some a∧f a=some v:=by
 cases x with
 | none=>cases h
 | some a=>exact ⟨a,rfl,h⟩
theorem er {x y:Option AV} {f:AV→AV→Option AV} {v:AV} (h:Il x y f=some v): ∃a b,x=some a∧y=some b∧f a b=some v:=by
 cases x with
 | none=>cases h
 | some a=>cases y with
  | none=>cases h
  | some b=>exact ⟨a,b,rfl,rfl,h⟩
theorem l7 {x y z:Option AV} {f:AV→AV→AV→Option AV} {v:AV} (h:PZ x y z f=some v): ∃a b d,x=some a∧y=some b∧z=some d∧f a b d=some v:=by
 cases x with
 | none=>cases h
 | some a=>cases y with
  | none=>cases h
  | some b=>cases z with
   | none=>cases h
   | some d=>exact ⟨a,b,d,rfl,rfl,rfl,h⟩
theorem gu {g e:Option AV} {w:Bool} {v:AV} (h:kS g w e=some v):(g=some (.bool w)∧e=some v)∨(g=some (.bool (!w))∧v= .aI [])∨(∃l,g=some (.aI l))∧v= .aI []:=by
 unfold kS at h;split at h
 ·rename_i b;split at h
  ·rename_i hb;rw [beq_iff_eq] at hb;subst hb;exact .inl ⟨rfl,h⟩
  ·rename_i hb;cases h;refine .inr (.inl ⟨?_,rfl⟩);cases b <;> cases w <;> simp_all
 ·cases h;exact .inr (.inr ⟨⟨_,rfl⟩,rfl⟩)
 ·cases h
theorem eW (w:Bool) (e:Option AV):kS (some (.bool w)) w e=e:=by simp [kS]
theorem qN (w:Bool) (e:Option AV):kS (some (.bool (!w))) w e=some (.aI []):=by cases w <;> rfl
theorem kV (w:Bool) (l:List AV) (e:Option AV):kS (some (.aI l)) w e=some (.aI []):=rfl
theorem kc {p b:Option AV} {v:AV} (h:Ew p b=some v):(p=some (.bool true)∧b=some v)∨(p=some (.bool false)∧v= .bool false):=by
 unfold Ew at h;split at h
 ·exact .inl ⟨rfl,h⟩
 ·cases h;exact .inr ⟨rfl,rfl⟩
 ·cases h
theorem l8 {p b:Option AV} {v:AV} (h:NC p b=some v):(p=some (.bool false)∧b=some v)∨(p=some (.bool true)∧v= .bool true):=by
 unfold NC at h;split at h
 ·cases h;exact .inr ⟨rfl,rfl⟩
 ·exact .inl ⟨rfl,h⟩
 ·cases h
section
variable {c:ax} {env:List (Option AV)}
theorem tZ {bs bs':List ad}: ∀{e:E},e.reads=false→bj c env bs e=bj c env bs' e:=by
 intro e
 induction e <;> intro h <;> simp only [E.reads,Bool.or_eq_false_iff,Bool.true_eq_false] at h <;> simp only [bj]
 case bin ih1 ih2=>rw [ih1 h.1,ih2 h.2]
 case un ih=>rw [ih h]
 case pick ih1 ih2 ih3=>rw [ih1 h.1.1,ih2 h.1.2,ih3 h.2]
 case guard ih1 ih2=>rw [ih1 h.1,ih2 h.2]
 case and ih1 ih2=>rw [ih1 h.1,ih2 h.2]
 case or ih1 ih2=>rw [ih1 h.1,ih2 h.2]
 case index ih1 ih2=>rw [ih1 h.1,ih2 h.2]
 case field ih=>rw [ih h]
 case extract ih=>rw [ih h]
 case toInt ih=>rw [ih h]
 case lenS ih=>rw [ih h]
 case slA ih=>rw [ih h]
 case slL ih1 ih2=>rw [ih1 h.1,ih2 h.2]
 case slH ih1 ih2=>rw [ih1 h.1,ih2 h.2]
 case slB ih1 ih2 ih3=>rw [ih1 h.1.1,ih2 h.1.2,ih3 h.2]
 case nilck ih=>rw [ih h]
theorem x3 {bs:List ad} {k:Nat} {x:Option AV}: ∀{e:E},e.looks k=false→bj c (env.set k x) bs e=bj c env bs e:=by
 intro e
 induction e <;> intro h <;> simp only [E.looks,Bool.or_eq_false_iff,beq_eq_false_iff_ne,ne_eq] at h <;> simp only [bj]
 case var i=>simp only [j9,List.getD_eq_getElem?_getD,List.getElem?_set_ne h]
 case bin ih1 ih2=>rw [ih1 h.1,ih2 h.2]
 case un ih=>rw [ih h]
 case pick ih1 ih2 ih3=>rw [ih1 h.1.1,ih2 h.1.2,ih3 h.2]
 case guard ih1 ih2=>rw [ih1 h.1,ih2 h.2]
 case and ih1 ih2=>rw [ih1 h.1,ih2 h.2]
 case or ih1 ih2=>rw [ih1 h.1,ih2 h.2]
 case index ih1 ih2=>rw [ih1 h.1,ih2 h.2]
 case field ih=>rw [ih h]
 case extract ih=>rw [ih h]
 case conv ih=>rw [ih h]
 case toInt ih=>rw [ih h]
 case len ih=>rw [ih h]
 case lenS ih=>rw [ih h]
 case slA ih=>rw [ih h]
 case slL ih1 ih2=>rw [ih1 h.1,ih2 h.2]
 case slH ih1 ih2=>rw [ih1 h.1,ih2 h.2]
 case slB ih1 ih2 ih3=>rw [ih1 h.1.1,ih2 h.1.2,ih3 h.2]
 case load ih=>rw [ih h]
 case faddr ih=>rw [ih h]
 case iaddr ih1 ih2=>rw [ih1 h.1,ih2 h.2]
 case nilck ih=>rw [ih h]
theorem hZ {bs:List ad} {g:E} {w:Bool} (hg:bj c env bs g=some (.bool w)): ∀(e:E),bj c env bs (bc g w e)=bj c env bs e:=by
 intro e
 induction e <;> simp only [bc]
 case guard x v y ih1 ih2=>
  split
  ·rename_i h;simp only [Bool.and_eq_true,beq_iff_eq] at h;obtain ⟨h1,rfl⟩:=h;obtain rfl:=b9 h1;rw [ih2];simp only [bj];rw [hg,eW]
  ·simp only [bj];rw [ih1,ih2]
 all_goals simp only [bj, *]
theorem kW {bs:List ad} {g:E} {w:Bool} (hg:bj c env bs g=some (.bool (!w))∨ ∃l,bj c env bs g=some (.aI l)): ∀{e:E},mT g w e=true→bj c env bs e=some (.aI []):=by
 intro e
 induction e <;> intro h <;> simp only [mT,Bool.false_eq_true] at h
 case guard x v y ih1 ih2=>
  simp only [Bool.or_eq_true,Bool.and_eq_true,beq_iff_eq] at h;simp only [bj];rcases h with ⟨h1,rfl⟩ | h1
  ·obtain rfl:=b9 h1;rcases hg with hg | ⟨l,hg⟩
   ·rw [hg,qN]
   ·rw [hg,kV]
  ·rw [ih1 h1,kV]
theorem Cb {bs:List ad}: ∀{F e:E},e.within F=true→(bj c env bs F).isSome=true→(bj c env bs e).isSome=true:=by
 intro F
 induction F <;> intro e h hF <;> simp only [E.within,Bool.or_eq_true,Bool.and_eq_true] at h
 case var=>rw [b9 h];exact hF
 case cst=>rw [b9 h];exact hF
 case guard g w x ih1 ih2=>
  rcases h with (h | h) | ⟨h1,h2⟩
  ·rw [b9 h];exact hF
  ·obtain ⟨v,hv⟩:=Option.isSome_iff_exists.1 hF;refine ih1 h ?_;simp only [bj] at hv;rcases gu hv with ⟨h1,h2⟩ | ⟨h1,rfl⟩ | ⟨⟨l,h1⟩,rfl⟩ <;> rw [h1] <;> rfl
  ·obtain ⟨v,hv⟩:=Option.isSome_iff_exists.1 hF;simp only [bj] at hv;rcases gu hv with ⟨h3,h4⟩ | ⟨h3,rfl⟩ | ⟨h3,rfl⟩
   ·rw [←hZ h3];exact ih2 h2 (by rw [h4];rfl)
   ·rw [kW (.inl h3) h1];rfl
   ·rw [kW (.inr h3) h1];rfl
 case and g x ih1 ih2=>
  rcases h with (h | h) | ⟨h1,h2⟩
  ·rw [b9 h];exact hF
  ·obtain ⟨v,hv⟩:=Option.isSome_iff_exists.1 hF;refine ih1 h ?_;simp only [bj] at hv;rcases kc hv with ⟨h1,h2⟩ | ⟨h1,rfl⟩ <;> rw [h1] <;> rfl
  ·obtain ⟨v,hv⟩:=Option.isSome_iff_exists.1 hF;simp only [bj] at hv;rcases kc hv with ⟨h3,h4⟩ | ⟨h3,rfl⟩
   ·rw [←hZ h3];exact ih2 h2 (by rw [h4];rfl)
   ·rw [kW (.inl h3) h1];rfl
 case or g x ih1 ih2=>
  rcases h with (h | h) | ⟨h1,h2⟩
  ·rw [b9 h];exact hF
  ·obtain ⟨v,hv⟩:=Option.isSome_iff_exists.1 hF;refine ih1 h ?_;simp only [bj] at hv;rcases l8 hv with ⟨h1,h2⟩ | ⟨h1,rfl⟩ <;> rw [h1] <;> rfl
  ·obtain ⟨v,hv⟩:=Option.isSome_iff_exists.1 hF;simp only [bj] at hv;rcases l8 hv with ⟨h3,h4⟩ | ⟨h3,rfl⟩
   ·rw [←hZ h3];exact ih2 h2 (by rw [h4];rfl)
   ·rw [kW (.inl h3) h1];rfl
 case pick p x y ih1 ih2 ih3=>
  obtain ⟨v,hv⟩:=Option.isSome_iff_exists.1 hF;simp only [bj] at hv;obtain ⟨a,b,d,h1,h2,h3,h4⟩:=l7 hv;rcases h with ((h | h) | h) | h
  ·rw [b9 h];exact hF
  ·exact ih1 h (by rw [h1];rfl)
  ·exact ih2 h (by rw [h2];rfl)
  ·exact ih3 h (by rw [h3];rfl)
 case slB p x y ih1 ih2 ih3=>
  obtain ⟨v,hv⟩:=Option.isSome_iff_exists.1 hF;simp only [bj] at hv;obtain ⟨a,b,d,h1,h2,h3,h4⟩:=l7 hv;rcases h with ((h | h) | h) | h
  ·rw [b9 h];exact hF
  ·exact ih1 h (by rw [h1];rfl)
  ·exact ih2 h (by rw [h2];rfl)
  ·exact ih3 h (by rw [h3];rfl)
 case bin ih1 ih2=>
  obtain ⟨v,hv⟩:=Option.isSome_iff_exists.1 hF;simp only [bj] at hv;obtain ⟨a,b,h1,h2,h3⟩:=er hv;rcases h with (h | h) | h
  ·rw [b9 h];exact hF
  ·exact ih1 h (by rw [h1];rfl)
  ·exact ih2 h (by rw [h2];rfl)
 case index ih1 ih2=>
  obtain ⟨v,hv⟩:=Option.isSome_iff_exists.1 hF;simp only [bj] at hv;obtain ⟨a,b,h1,h2,h3⟩:=er hv;rcases h with (h | h) | h
  ·rw [b9 h];exact hF
  ·exact ih1 h (by rw [h1];rfl)
  ·exact ih2 h (by rw [h2];rfl)
 case slL ih1 ih2=>
  obtain ⟨v,hv⟩:=Option.isSome_iff_exists.1 hF;simp only [bj] at hv;obtain ⟨a,b,h1,h2,h3⟩:=er hv;rcases h with (h | h) | h
  ·rw [b9 h];exact hF
  ·exact ih1 h (by rw [h1];rfl)
  ·exact ih2 h (by rw [h2];rfl)
 case slH ih1 ih2=>
  obtain ⟨v,hv⟩:=Option.isSome_iff_exists.1 hF;simp only [bj] at hv;obtain ⟨a,b,h1,h2,h3⟩:=er hv;rcases h with (h | h) | h
  ·rw [b9 h];exact hF
  ·exact ih1 h (by rw [h1];rfl)
  ·exact ih2 h (by rw [h2];rfl)
 case iaddr ih1 ih2=>
  obtain ⟨v,hv⟩:=Option.isSome_iff_exists.1 hF;simp only [bj] at hv;obtain ⟨a,b,h1,h2,h3⟩:=er hv;rcases h with (h | h) | h
  ·rw [b9 h];exact hF
  ·exact ih1 h (by rw [h1];rfl)
  ·exact ih2 h (by rw [h2];rfl)
 all_goals
  rename_i ih;obtain ⟨v,hv⟩:=Option.isSome_iff_exists.1 hF;simp only [bj] at hv;obtain ⟨a,h1,h2⟩:=dw hv;rcases h with h | h
  ·rw [b9 h];exact hF
  ·exact ih h (by rw [h1];rfl)
theorem DC {bs:List ad} {bad:E→Bool}: ∀{F e:E},e∈dd bad F→(bj c env bs F).isSome=true→(bj c env bs e).isSome=true:=by
 have grd: ∀{g x e:E} {w:Bool} {v:AV},e∈(dd bad x).map (.guard g w)→(∀{e},e∈dd bad x→(bj c env bs x).isSome=true→(bj c env bs e).isSome=true)→kS (bj c env bs g) w (bj c env bs x)=some v→(bj c env bs e).isSome=true:=by
  intro g x e w v he ih hv;obtain ⟨y,hy,rfl⟩:=List.mem_map.1 he;simp only [bj];rcases gu hv with ⟨h1,h2⟩ | ⟨h1,rfl⟩ | ⟨⟨l,h1⟩,rfl⟩
  ·rw [h1,eW];exact ih hy (by rw [h2];rfl)
  ·rw [h1,qN];rfl
  ·rw [h1,kV];rfl
 intro F
 induction F <;> intro e h hF <;> simp only [dd] at h
 case guard g w x ih1 ih2=>
  split at h
  case h_2=>simp only [List.mem_cons,List.not_mem_nil,or_false] at h;rw [h];exact hF
  obtain ⟨v,hv⟩:=Option.isSome_iff_exists.1 hF;simp only [bj] at hv;rw [List.mem_append] at h;rcases h with h | h
  ·refine ih1 h ?_;rcases gu hv with ⟨h1,h2⟩ | ⟨h1,rfl⟩ | ⟨⟨l,h1⟩,rfl⟩ <;> rw [h1] <;> rfl
  ·split at h
   ·cases h
   ·exact grd h ih2 hv
 case and g x ih1 ih2=>
  split at h
  case h_2=>simp only [List.mem_cons,List.not_mem_nil,or_false] at h;rw [h];exact hF
  obtain ⟨v,hv⟩:=Option.isSome_iff_exists.1 hF;simp only [bj] at hv;rw [List.mem_append] at h;rcases h with h | h
  ·refine ih1 h ?_;rcases kc hv with ⟨h1,h2⟩ | ⟨h1,rfl⟩ <;> rw [h1] <;> rfl
  ·split at h
   ·cases h
   ·rcases kc hv with ⟨h1,h2⟩ | ⟨h1,rfl⟩
    ·exact grd (v:=v) h ih2 (by rw [h1,eW];exact h2)
    ·exact grd (v:= .aI []) h ih2 (by rw [h1];rfl)
 case or g x ih1 ih2=>
  split at h
  case h_2=>simp only [List.mem_cons,List.not_mem_nil,or_false] at h;rw [h];exact hF
  obtain ⟨v,hv⟩:=Option.isSome_iff_exists.1 hF;simp only [bj] at hv;rw [List.mem_append] at h;rcases h with h | h
  ·refine ih1 h ?_;rcases l8 hv with ⟨h1,h2⟩ | ⟨h1,rfl⟩ <;> rw [h1] <;> rfl
  ·split at h
   ·cases h
   ·rcases l8 hv with ⟨h1,h2⟩ | ⟨h1,rfl⟩
    ·exact grd (v:=v) h ih2 (by rw [h1,eW];exact h2)
    ·exact grd (v:= .aI []) h ih2 (by rw [h1];rfl)
 all_goals
  split at h
  case h_2=>simp only [List.mem_cons,List.not_mem_nil,or_false] at h;rw [h];exact hF
  obtain ⟨v,hv⟩:=Option.isSome_iff_exists.1 hF;simp only [bj] at hv
  first
   | (simp only [List.not_mem_nil] at h;done)
   | (obtain ⟨a, b, d, h1, h2, h3, h4⟩ := l7 hv
      rename_i ih1 ih2 ih3 _ _;simp only [List.mem_append] at h;rcases h with h | h | h
      ·exact ih1 h (by rw [h1]; rfl)
      ·exact ih2 h (by rw [h2]; rfl)
      ·exact ih3 h (by rw [h3]; rfl))
   | (obtain ⟨a, b, h1, h2, h3⟩ := er hv
      rename_i ih1 ih2 _ _;simp only [List.mem_append] at h;rcases h with h | h
      ·exact ih1 h (by rw [h1]; rfl)
      ·exact ih2 h (by rw [h2]; rfl))
   | (obtain ⟨a, h1, h2⟩ := dw hv
      rename_i ih _ _;exact ih h (by rw [h1]; rfl))
theorem wC {bad:E→Bool} (hb: ∀g w x,bad (.guard g w x)=(bad g || bad x)): ∀{F e:E},e∈dd bad F→bad e=false:=by
 have grd: ∀{g x e:E} {w:Bool},e∈(match bad g with | true=> [] | false=>(dd bad x).map (E.guard g w))→(∀{e},e∈dd bad x→bad e=false)→bad e=false:=by
  intro g x e w he ih;split at he
  ·cases he
  ·rename_i hg;obtain ⟨y,hy,rfl⟩:=List.mem_map.1 he;rw [hb,hg,ih hy];rfl
 intro F
 induction F <;> intro e h <;> simp only [dd] at h
 case guard g w x ih1 ih2=>
  split at h
  case h_2=>simp only [List.mem_cons,List.not_mem_nil,or_false] at h;rw [h];assumption
  rw [List.mem_append] at h;rcases h with h | h
  ·exact ih1 h
  ·exact grd h ih2
 case and g x ih1 ih2=>
  split at h
  case h_2=>simp only [List.mem_cons,List.not_mem_nil,or_false] at h;rw [h];assumption
  rw [List.mem_append] at h;rcases h with h | h
  ·exact ih1 h
  ·exact grd h ih2
 case or g x ih1 ih2=>
  split at h
  case h_2=>simp only [List.mem_cons,List.not_mem_nil,or_false] at h;rw [h];assumption
  rw [List.mem_append] at h;rcases h with h | h
  ·exact ih1 h
  ·exact grd h ih2
 all_goals
  split at h
  case h_2=>simp only [List.mem_cons,List.not_mem_nil,or_false] at h;rw [h];assumption
  first
   | (simp only [List.not_mem_nil] at h;done)
   | (rename_i ih1 ih2 ih3 _ _
      simp only [List.mem_append] at h;rcases h with h | h | h
      ·exact ih1 h
      ·exact ih2 h
      ·exact ih3 h)
   | (rename_i ih1 ih2 _ _
      simp only [List.mem_append] at h;rcases h with h | h
      ·exact ih1 h
      ·exact ih2 h)
   | (rename_i ih _ _
      exact ih h)
end
end Go.Am
namespace Go.Am
theorem Gw (c:ax) (cf:aG) (op:Op) (t:Env) (bs:List ad) (id:Nat):bJ c cf op t bs id=dv c cf op (ev t) bs id:=by
 cases op
 case call k=>
  obtain ⟨callee,args,ts⟩:=k;cases callee <;> rfl
 all_goals rfl
theorem kX {φ ψ:Operand→AV} {l:List Operand} (h: ∀x∈l,φ x=ψ x):l.map φ=l.map ψ:=List.map_congr_left h
theorem pC {φ ψ:Operand→AV} {l:List (Nat×Operand)} (h: ∀x∈l.map (·.2),φ x=ψ x):(l.map fun p=>(p.1,φ p.2))=l.map fun p=>(p.1,ψ p.2):=
 List.map_congr_left fun p hp=>by rw [h p.2 (List.mem_map_of_mem hp)]
theorem oC {φ ψ:Operand→AV} {x:Option Operand} (h: ∀y∈x.toArray,φ y=ψ y):x.map φ=x.map ψ:=by
 cases x with
 | none=>rfl
 | some x=>simp only [Option.map_some];rw [h x (by simp)]
theorem oD (c:ax) {op:Op} {φ ψ:Operand→AV} (h: ∀x∈op.operands,φ x=ψ x) (bs:List ad) (id:Nat):cF c op φ bs id=cF c op ψ bs id:=by
 cases op <;> simp only [Op.operands] at h
 case move x=>simp only [cF];rw [h x (by simp)]
 case assign x=>simp only [cF];rw [h x (by simp)]
 case pick x y z=>simp only [cF];rw [h x (by simp),h y (by simp),h z (by simp)]
 case box e x=>simp only [cF];rw [h x (by simp)]
 case build ty ps=>simp only [cF];rw [pC (fun x hx=>h x (by simpa using hx))]
 case buildSlice ty n ps=>simp only [cF];rw [pC (fun x hx=>h x (by simpa using hx))]
 case load ty x=>simp only [cF];rw [h x (by simp)]
 case store ty x y=>simp only [cF];rw [h x (by simp),h y (by simp)]
 case nilCheck x=>simp only [cF];rw [h x (by simp)]
 case makeInterface ty x=>simp only [cF];rw [h x (by simp)]
 case binOp o ty x y ty'=>simp only [cF];rw [h x (by simp),h y (by simp)]
 case unOp o ty x=>simp only [cF];rw [h x (by simp)]
 case convert s d x=>simp only [cF];rw [h x (by simp)]
 case makeFunc fn first caps=>
  cases fn <;> first
   | rfl
   | (simp only [cF];rw [kX (fun x hx=>h x (by simp at hx⊢;exact .inl hx)),kX (fun x hx=>h x (by simp at hx⊢;exact .inr hx))])
 case makeSlice ty x y=>simp only [cF];rw [h x (by simp),h y (by simp)]
 case slice ty x lo hi mx=>
  have h1:=oC (x:=lo) (fun y hy=>h y (by simp only [Array.mem_append];exact .inl (.inl (.inr hy))));have h2:=oC (x:=hi) (fun y hy=>h y (by simp only [Array.mem_append];exact .inl (.inr hy)));simp only [cF];rw [h x (by simp),h1,h2];cases mx with
  | none=>rfl
  | some m=>simp only;rw [h m (by simp)]
 case fieldAddr ty x f=>simp only [cF];rw [h x (by simp)]
 case field ty x f=>simp only [cF];rw [h x (by simp)]
 case indexAddr ty x y=>simp only [cF];rw [h x (by simp),h y (by simp)]
 case index ty x y=>simp only [cF];rw [h x (by simp),h y (by simp)]
 case extract x i=>simp only [cF];rw [h x (by simp)]
 case makeMap ty r=>simp only [cF];rw [oC h]
 case range ty x=>simp only [cF];rw [h x (by simp)]
 case next x str=>simp only [cF];rw [h x (by simp)]
 case lookup ty x k ok=>simp only [cF];rw [h x (by simp),h k (by simp)]
 case mapUpdate ty m k x=>simp only [cF];rw [h m (by simp),h k (by simp),h x (by simp)]
 case insert ty m k x=>simp only [cF];rw [h m (by simp),h k (by simp),h x (by simp)]
 case mapEntry ty m k=>simp only [cF];rw [h m (by simp),h k (by simp)]
 case entryStore ty m s x=>simp only [cF];rw [h m (by simp),h s (by simp),h x (by simp)]
 case entry x=>simp only [cF];rw [h x (by simp)]
 case call k=>
  obtain ⟨callee,args,ts⟩:=k;simp only [cF];rw [kX (fun x hx=>h x (by simp only [Call.operands,Array.mem_append];exact .inr (by simpa using hx)))]
 all_goals rfl
theorem zJ (c:ax) (cf:aG) {op:Op} {φ ψ:Operand→AV} (h: ∀x∈op.operands,φ x=ψ x) (bs:List ad) (id:Nat):dv c cf op φ bs id=dv c cf op ψ bs id:=by
 unfold dv;split
 ·rename_i k;obtain ⟨callee,args,ts⟩:=k;simp only;cases callee with
  | value f=>simp only;rw [h f (by simp [Op.operands,Call.operands]),kX (fun x hx=>h x (by simp only [Op.operands,Call.operands,Array.mem_append];exact .inr (by simpa using hx)))]
  | invoke r m=>exact oD c h bs id
  | builtin b=>exact oD c h bs id
 ·exact oD c h bs id
theorem cR {x:Option E} {f:E→E} {e:E} (h:gr x f=some e): ∃a,x=some a∧e=f a:=by
 unfold gr at h;cases x with
 | none=>cases h
 | some a=>cases h;exact ⟨a,rfl,rfl⟩
theorem iI {x y:Option E} {f:E→E→E} {e:E} (h:py x y f=some e): ∃a b,x=some a∧y=some b∧e=f a b:=by
 unfold py at h;split at h
 ·cases h;exact ⟨_,_,rfl,rfl,rfl⟩
 ·cases h
theorem ua {x y z:Option E} {f:E→E→E→E} {e:E} (h:zz x y z f=some e): ∃a b d,x=some a∧y=some b∧z=some d∧e=f a b d:=by
 unfold zz at h;split at h
 ·cases h;exact ⟨_,_,_,rfl,rfl,rfl,rfl⟩
 ·cases h
theorem Cc {c:ax} {env:List (Option AV)} {bs:List ad} {p a b:E} {v:AV} (h:bj c env bs (B8 p a b)=some v):bj c env bs (.pick p a b)=some v:=by
 unfold B8 at h;split at h
 ·split at h
  ·rename_i hs;obtain rfl:=b9 hs;simp only [bj] at h⊢;rcases kc h with ⟨h1,h2⟩ | ⟨h1,rfl⟩
   ·rw [h1,eW,h2];rfl
   ·rw [h1];rfl
  ·exact h
 ·split at h
  ·rename_i hs;obtain rfl:=b9 hs;simp only [bj] at h⊢;rcases l8 h with ⟨h1,h2⟩ | ⟨h1,rfl⟩
   ·rw [h1,eW,h2];rfl
   ·rw [h1];rfl
  ·exact h
 ·exact h
theorem Cd {c:ax} {s d:Option TI} {x r:AV} {bs:List ad} {i j:Nat} (h:dq c s d x bs i=some (r,.none)):dq c s d x bs j=some (r,.none):=by
 unfold dq at h⊢
 repeat' (first | exact h | (split at h <;> try (cases h;done)))
 all_goals first
  | exact h
  | (simp_all;done)
theorem Iq {c:ax} {cf:aG} {env:List (Option AV)} {bs:List ad} {ρ:Operand→Option E} {φ:Operand→AV} (hρ: ∀x e v,ρ x=some e→bj c env bs e=some v→φ x=v) {op:Op} {e:E} {v:AV}
  (h:l5 c ρ op=some e) (hv:bj c env bs e=some v) (id:Nat):dv c cf op φ bs id=some (v,.none):=by
 unfold l5 at h;split at h
 ·simp only [dv,cF];rw [hρ _ _ _ h hv]
 ·simp only [dv,cF];rw [hρ _ _ _ h hv]
 ·obtain ⟨a,b,d,h1,h2,h3,rfl⟩:=ua h;have hv:=Cc hv;simp only [bj] at hv;obtain ⟨x,y,z,k1,k2,k3,k4⟩:=l7 hv;simp only [dv,cF];rw [hρ _ _ _ h1 k1,hρ _ _ _ h2 k2,hρ _ _ _ h3 k3];exact dT k4
 ·split at h
  ·cases h
  rename_i hq;obtain ⟨a,b,h1,h2,rfl⟩:=iI h;simp only [bj] at hv;obtain ⟨x,y,k1,k2,k3⟩:=er hv;simp only [dv,cF,Ed,hq];rw [hρ _ _ _ h1 k1,hρ _ _ _ h2 k2,k3];rfl
 ·obtain ⟨a,h1,rfl⟩:=cR h;simp only [bj] at hv;obtain ⟨x,k1,k2⟩:=dw hv;simp only [dv,cF];rw [hρ _ _ _ h1 k1,k2];rfl
 ·obtain ⟨a,b,h1,h2,rfl⟩:=iI h;simp only [bj] at hv;obtain ⟨x,y,k1,k2,k3⟩:=er hv;simp only [dv,cF];rw [hρ _ _ _ h1 k1,hρ _ _ _ h2 k2];exact dT k3
 ·obtain ⟨a,h1,rfl⟩:=cR h;simp only [bj] at hv;obtain ⟨x,k1,k2⟩:=dw hv;simp only [dv,cF];rw [hρ _ _ _ h1 k1];exact dT k2
 ·obtain ⟨a,h1,rfl⟩:=cR h;simp only [bj] at hv;obtain ⟨x,k1,k2⟩:=dw hv;simp only [dv,cF];rw [hρ _ _ _ h1 k1];exact dT k2
 ·-- convert
  simp only [dv,cF];split at h
  ·rename_i hs hd;obtain ⟨a,h1,rfl⟩:=cR h;simp only [bj] at hv;obtain ⟨x,k1,k2⟩:=dw hv;rw [hρ _ _ _ h1 k1];simp only [ax.descOf,Option.map_eq_some_iff] at hs hd;obtain ⟨i,hi,hi2⟩:=hs;obtain ⟨j,hj,hj2⟩:=hd;unfold B6 at k2;split at k2
   ·cases k2;simp only [hi,hj,dq,hj2]
   ·cases k2
  ·cases h
  ·obtain ⟨a,h1,rfl⟩:=cR h;simp only [bj] at hv;obtain ⟨x,k1,k2⟩:=dw hv;rw [hρ _ _ _ h1 k1];exact Cd (dT k2)
 ·obtain ⟨a,h1,rfl⟩:=cR h;simp only [bj] at hv;obtain ⟨x,k1,k2⟩:=dw hv;simp only [dv,cF];rw [hρ _ _ _ h1 k1];exact dT k2
 ·obtain ⟨a,h1,rfl⟩:=cR h;simp only [bj] at hv;obtain ⟨x,k1,k2⟩:=dw hv;simp only [dv,cF];rw [hρ _ _ _ h1 k1];exact dT k2
 ·obtain ⟨a,b,h1,h2,rfl⟩:=iI h;simp only [bj] at hv;obtain ⟨x,y,k1,k2,k3⟩:=er hv;simp only [dv,cF];rw [hρ _ _ _ h1 k1,hρ _ _ _ h2 k2];exact dT k3
 ·obtain ⟨a,h1,rfl⟩:=cR h;simp only [bj] at hv;obtain ⟨x,k1,k2⟩:=dw hv;simp only [dv,cF];rw [hρ _ _ _ h1 k1];exact dT k2
 ·-- slice
  have sl: ∀{x r:AV} {lo hi:Option AV},oz x lo hi=some r→db c .string x lo hi bs=some (r,.none):=by
   intro x r lo hi h;unfold oz at h;split at h
   ·simp only [db];split at h
    ·rename_i hh;rw [hh];simp only;split at h
     ·rename_i hl;rw [hl];cases h;rfl
     ·cases h
    ·cases h
   ·cases h
  split at h
  ·rename_i hd;simp only [ax.descOf,Option.map_eq_some_iff] at hd;obtain ⟨j,hj,hj2⟩:=hd;simp only [dv,cF,hj,hj2];split at h
   ·obtain ⟨a,h1,rfl⟩:=cR h;simp only [bj] at hv;obtain ⟨x,k1,k2⟩:=dw hv;rw [hρ _ _ _ h1 k1];exact sl k2
   ·obtain ⟨a,b,h1,h2,rfl⟩:=iI h;simp only [bj] at hv;obtain ⟨x,y,k1,k2,k3⟩:=er hv;simp only [Option.map_some,Option.map_none];rw [hρ _ _ _ h1 k1,hρ _ _ _ h2 k2];exact sl k3
   ·obtain ⟨a,b,h1,h2,rfl⟩:=iI h;simp only [bj] at hv;obtain ⟨x,y,k1,k2,k3⟩:=er hv;simp only [Option.map_some,Option.map_none];rw [hρ _ _ _ h1 k1,hρ _ _ _ h2 k2];exact sl k3
   ·obtain ⟨a,b,d,h1,h2,h3,rfl⟩:=ua h;simp only [bj] at hv;obtain ⟨x,y,z,k1,k2,k3,k4⟩:=l7 hv;simp only [Option.map_some];rw [hρ _ _ _ h1 k1,hρ _ _ _ h2 k2,hρ _ _ _ h3 k3];exact sl k4
  ·cases h
 ·-- len
  rename_i k;obtain ⟨callee,args,ts⟩:=k;simp only at h;split at h
  ·rename_i hts hargs;simp only [dv,cF];rw [hts,hargs];simp only [List.map_cons,List.map_nil,dQ];split at h
   ·rename_i hd;simp only [ax.descOf,Option.map_eq_some_iff] at hd;obtain ⟨j,hj,hj2⟩:=hd;obtain ⟨a,h1,rfl⟩:=cR h;simp only [bj] at hv;obtain ⟨x,k1,k2⟩:=dw hv;rw [hρ _ _ _ h1 k1];unfold Gq at k2;split at k2
    ·cases k2;simp only [hj,hj2,oc]
    ·cases k2
   ·obtain ⟨a,h1,rfl⟩:=cR h;simp only [bj] at hv;obtain ⟨x,k1,k2⟩:=dw hv;rw [hρ _ _ _ h1 k1];have:=dT k2;unfold Lx at this;exact this
  ·cases h
 ·cases h
end Go.Am
namespace Go.Am
section
variable {c:ax} {cf:aG} {base:Nat} {kl:List Nat}
abbrev seen (base:Nat) (kl:List Nat) (bs:List ad):List ad:=aP (kl.map (base+ ·)) bs
theorem l9 {env:List (Option AV)} {bs:List ad}: ∀{l:List (Nat×E)} {vs:List (Nat×AV)},nw c env bs l=some vs→ ∀i e,(i,e)∈l→ ∃v,bj c env bs e=some v∧(i,v)∈vs
 | [],vs,h,i,e,hm=>by cases hm
 | (j,f)::r,vs,h,i,e,hm=>by
  simp only [nw] at h;split at h
  ·rename_i v hv;split at h
   ·rename_i l hl;cases h;rcases List.mem_cons.1 hm with h1 | h1
    ·cases h1;exact ⟨v,hv,List.mem_cons_self⟩
    ·obtain ⟨u,h2,h3⟩:=l9 hl i e h1;exact ⟨u,h2,List.mem_cons_of_mem _ h3⟩
   ·cases h
  ·cases h
theorem ke {env:List (Option AV)} {bs:List ad}: ∀{l:List (Nat×E)} {vs:List (Nat×AV)},nw c env bs l=some vs→vs.map (·.1)=l.map (·.1)
 | [],vs,h=>by cases h;rfl
 | (j,f)::r,vs,h=>by
  simp only [nw] at h;split at h
  ·split at h
   ·rename_i l hl;cases h;simp only [List.map_cons,ke hl]
   ·cases h
  ·cases h
theorem jK: ∀(vs:List (Nat×AV)) (env:List (Option AV)),(c9 env vs).length=env.length
 | [],_=>rfl
 | (i,v)::r,env=>by simp only [c9];rw [jK r];simp
theorem jL {k:Nat}: ∀(vs:List (Nat×AV)) (env:List (Option AV)),(∀p∈vs,p.1≠k)→(c9 env vs).getD k none=env.getD k none
 | [],_,_=>rfl
 | (i,v)::r,env,h=>by
  simp only [c9];rw [jL r _ fun p hp=>h p (List.mem_cons_of_mem _ hp)];simp only [List.getD_eq_getElem?_getD];rw [List.getElem?_set_ne (h (i,v) List.mem_cons_self)]
theorem ub {k:Nat} {v:AV}: ∀(vs:List (Nat×AV)) (env:List (Option AV)),(vs.map (·.1)).Nodup→(k,v)∈vs→k<env.length→(c9 env vs).getD k none=some v
 | [],_,_,h,_=>by cases h
 | (i,u)::r,env,hn,h,hk=>by
  simp only [List.map_cons,List.nodup_cons] at hn;simp only [c9];rcases List.mem_cons.1 h with h1 | h1
  ·cases h1;rw [jL r _ fun p hp e=>hn.1 (by rw [←e];exact List.mem_map_of_mem hp)];simp [List.getD_eq_getElem?_getD,hk]
  ·exact ub r _ hn.2 h1 (by simpa using hk)
theorem oE {bs:List ad} {e:E}: ∀(vs:List (Nat×AV)) (env:List (Option AV)),(∀p∈vs,e.looks p.1=false)→bj c (c9 env vs) bs e=bj c env bs e
 | [],_,_=>rfl
 | (i,v)::r,env,h=>by
  simp only [c9];rw [oE r _ fun p hp=>h p (List.mem_cons_of_mem _ hp)];exact x3 (h (i,v) List.mem_cons_self)
theorem Ir {α:Type} (l:List α) (f g:α→Bool):(l.any fun p=>f p || g p)=(l.any f || l.any g):=by
 induction l with
 | nil=>rfl
 | cons a l ih=>simp only [List.any_cons,ih];cases f a <;> cases g a <;> cases l.any f <;> rfl
theorem qO: ∀{its:List It} {env:List (Option AV)} {bs:List ad} {r:List (Option AV)×List ad},ba c cf base kl its env bs=some r→ ∀e∈oA its,(bj c env (seen base kl bs) e).isSome=true
 | [],_,_,_,_,e,he=>by cases he
 | .par l::its,env,bs,r,h,e,he=>by
  simp only [ba] at h;split at h
  ·rename_i vs hvs;simp only [oA,List.mem_append,List.mem_flatMap] at he;rcases he with he | ⟨f,hf,he⟩
   ·obtain ⟨⟨i,e'⟩,hp,rfl⟩:=List.mem_map.1 he;obtain ⟨v,hv,_⟩:=l9 hvs i e' hp;show (bj c env (seen base kl bs) e').isSome=true;rw [hv];rfl
   ·have h1:=qO h f hf;have h2:=DC he h1;have h3:=wC (bad:=fun e=>l.any fun p=>e.looks p.1) (fun g w x=>by simp only [E.looks];exact Ir l _ _) he;rw [oE vs env (fun p hp=> ?_)] at h2
    ·exact h2
    ·have:p.1∈l.map (·.1):=by rw [←ke hvs];exact List.mem_map_of_mem hp
     obtain ⟨q,hq,hqp⟩:=List.mem_map.1 this;rw [List.any_eq_false] at h3;have:=h3 q hq;rw [hqp] at this;simpa using this
  ·cases h
 | .cW mask k d g o xs::its,env,bs,r,h,e,he=>by
  simp only [ba] at h
  have late: ∀{v:AV} {bs':List ad},ba c cf base kl its (tS env d v) bs'=some r→e∈(oA its).flatMap (dd fun e=>e.reads || tT d e)→(bj c env (seen base kl bs) e).isSome=true:=by
   intro v bs' h he;obtain ⟨f,hf,he⟩:=List.mem_flatMap.1 he;have h1:=qO h f hf;have h2:=DC he h1
   have h3:=wC (bad:=fun e=>e.reads || tT d e) (fun g w x=>by
    cases d with
    | none=>simp only [E.reads,tT,Bool.or_false]
    | some i=>simp only [E.reads,tT,E.looks];cases g.reads <;> cases x.reads <;> cases g.looks i <;> cases x.looks i <;> rfl) he
   simp only [Bool.or_eq_false_iff] at h3;rw [tZ h3.1 (bs':=seen base kl bs)] at h2;cases d with
   | none=>exact h2
   | some i=>simp only [tS] at h2;rw [x3 h3.2] at h2;exact h2
  simp only [oA,List.mem_append] at he;split at h
  ·rename_i hw;split at h
   ·rename_i vs hvs;split at h
    ·rcases he with he | he
     ·cases g with
      | none=>simp only at he;obtain ⟨⟨i,e'⟩,hp,rfl⟩:=List.mem_map.1 he;obtain ⟨v,hv,_⟩:=l9 hvs i e' hp;show (bj c env (seen base kl bs) e').isSome=true;rw [hv];rfl
      | some q=>
       obtain ⟨x,w⟩:=q;simp only [rP,rO] at hw
       have hx:bj c env (seen base kl bs) x=some (.bool w):=by
        split at hw
        ·rename_i b hb;rw [hb];cases b <;> cases w <;> simp_all
        ·cases hw
        ·cases hw
       simp only [List.mem_cons] at he;rcases he with rfl | he
       ·rw [hx];rfl
       ·obtain ⟨⟨i,e'⟩,hp,rfl⟩:=List.mem_map.1 he;obtain ⟨v,hv,_⟩:=l9 hvs i e' hp;simp only [bj];rw [hx,eW,hv];rfl
     ·exact late h he
    ·cases h
   ·cases h
  ·rename_i hw;rcases he with he | he
   ·cases g with
    | none=>simp [rP] at hw
    | some q=>
     obtain ⟨x,w⟩:=q;simp only [rP,rO] at hw
     have hx:bj c env (seen base kl bs) x=some (.bool (!w))∨ ∃l,bj c env (seen base kl bs) x=some (.aI l):=by
      split at hw
      ·rename_i b hb;left;rw [hb];cases b <;> cases w <;> simp_all
      ·rename_i l hb;right;exact ⟨l,hb⟩
      ·cases hw
     simp only [List.mem_cons] at he;rcases he with rfl | he
     ·rcases hx with hx | ⟨l,hx⟩ <;> rw [hx] <;> rfl
     ·obtain ⟨⟨i,e'⟩,hp,rfl⟩:=List.mem_map.1 he;simp only [bj];rcases hx with hx | ⟨l,hx⟩
      ·rw [hx,qN];rfl
      ·rw [hx,kV];rfl
   ·exact late h he
  ·cases h
theorem kf {i:Nat} {e:E}: ∀{σ:List (Nat×E)},cY σ i=some e→(i,e)∈σ
 | [],h=>by cases h
 | (j,f)::r,h=>by
  simp only [cY] at h;split at h
  ·rename_i hij;cases h;subst hij;exact List.mem_cons_self
  ·exact List.mem_cons_of_mem _ (kf h)
theorem oF {i:Nat} {e:E}: ∀{σ:List (Nat×E)},(i,e)∈σ→ ∃f,cY σ i=some f
 | [],h=>by cases h
 | (j,f)::r,h=>by
  simp only [cY];split
  ·exact ⟨f,rfl⟩
  ·rename_i hij;rcases List.mem_cons.1 h with h1 | h1
   ·cases h1;exact absurd rfl hij
   ·exact oF h1
def kY (σ:List (Nat×E)):Prop:= ∀i e,(i,e)∈σ→cY σ i=some e
theorem kY.filter {σ:List (Nat×E)} (h:kY σ) (p:Nat×E→Bool):kY (σ.filter p):=fun i e he=>by
 obtain ⟨f,hf⟩:=oF he;have h1:=h i e (List.mem_filter.1 he).1;have h2:=h i f (List.mem_filter.1 (kf hf)).1;rw [h1] at h2;cases h2;exact hf
theorem kY.look {σ:List (Nat×E)} (h:kY σ) {p:Nat×E→Bool} {i:Nat} {e:E} (hl:cY (σ.filter p) i=some e):cY σ i=some e∧p (i,e)=true:=
 ⟨h i e (List.mem_filter.1 (kf hl)).1,(List.mem_filter.1 (kf hl)).2⟩
theorem kY.cons {σ:List (Nat×E)} (h:kY σ) (d:Nat) (e:E):kY ((d,e)::σ.filter fun p=>p.1 !=d):=fun i f hf=>by
 simp only [cY];rcases List.mem_cons.1 hf with h1 | h1
 ·cases h1;rw [if_pos rfl]
 ·have:=(List.mem_filter.1 h1).2;simp only [bne_iff_ne] at this;rw [if_neg this];exact h.filter _ i f h1
theorem qP: ∀{keep:List Nat} {i j k:Nat},posOf keep i=some k→posOf keep j=some k→i=j
 | [],_,_,_,h,_=>by cases h
 | x::r,i,j,k,h1,h2=>by
  simp only [posOf] at h1 h2;split at h1 <;> split at h2
  ·subst_vars;rfl
  ·cases h1;cases hp:posOf r j <;> rw [hp] at h2 <;> cases h2
  ·cases h2;cases hp:posOf r i <;> rw [hp] at h1 <;> cases h1
  ·cases hi:posOf r i with
   | none=>rw [hi] at h1;cases h1
   | some a=>cases hj:posOf r j with
    | none=>rw [hj] at h2;cases h2
    | some b=>rw [hi] at h1;rw [hj] at h2;simp only [Option.map_some,Option.some.injEq] at h1 h2;exact qP hi (by rw [hj];congr 1;omega)
theorem cP: ∀{keep:List Nat} {i k:Nat},posOf keep i=some k→keep[k]?=some i
 | [],_,_,h=>by cases h
 | x::r,i,k,h=>by
  simp only [posOf] at h;split at h
  ·cases h;subst_vars;rfl
  ·cases hi:posOf r i with
   | none=>rw [hi] at h;cases h
   | some a=>rw [hi] at h;cases h;simpa using cP hi
theorem uc {keep:List Nat} {σ:List (Nat×E)} {i:Nat} {e:E} (he:cY σ i=some e): ∀{l:List Nat} {j k0:Nat},l[j]?=some i→(k0+j,e)∈da keep σ l k0
 | [],_,_,h=>by simp at h
 | x::r,0,k0,h=>by simp at h;subst h;simp [da,he]
 | x::r,j+1,k0,h=>by
  have:=uc (keep:=keep) he (l:=r) (j:=j) (k0:=k0+1) (by simpa using h);rw [show k0+1+j=k0+(j+1) by omega] at this;simp only [da];split
  ·exact List.mem_cons_of_mem _ this
  ·exact this
theorem ju {keep:List Nat} {σ:List (Nat×E)} {k:Nat} {e:E}: ∀{l:List Nat} {k0:Nat},(k,e)∈da keep σ l k0→ ∃j i,l[j]?=some i∧k=k0+j∧cY σ i=some e
 | [],_,h=>by cases h
 | x::r,k0,h=>by
  simp only [da] at h;split at h
  ·rename_i f hf;rcases List.mem_cons.1 h with h1 | h1
   ·cases h1;exact ⟨0,x,rfl,rfl,hf⟩
   ·obtain ⟨j,i,h2,h3,h4⟩:=ju h1;exact ⟨j+1,i,by simpa using h2,by omega,h4⟩
  ·obtain ⟨j,i,h2,h3,h4⟩:=ju h;exact ⟨j+1,i,by simpa using h2,by omega,h4⟩
theorem kZ {keep:List Nat} {σ:List (Nat×E)}: ∀(l:List Nat) (k0:Nat),((da keep σ l k0).map (·.1)).Nodup
 | [],_=>List.nodup_nil
 | x::r,k0=>by
  simp only [da];split
  ·simp only [List.map_cons,List.nodup_cons];refine ⟨fun h=> ?_,kZ r _⟩;obtain ⟨⟨k,e⟩,h1,h2⟩:=List.mem_map.1 h;obtain ⟨j,i,_,h4,_⟩:=ju h1;simp only at h2;omega
  ·exact kZ r _
structure jM (c:ax) (keep:List Nat) (nt:Nat) (env:List (Option AV)) (bs:List ad) (σ:List (Nat×E)) (t:Env):Prop where
 len:env.length=keep.length
 has: ∀i,i<nt→t.has i=true
 uniq:kY σ
 LB: ∀i e v,cY σ i=some e→bj c env bs e=some v→t.get .any i=v
 env: ∀i k v,cY σ i=none→posOf keep i=some k→env.getD k none=some v→t.get .any i=v
variable {keep:List Nat} {nt:Nat} {env:List (Option AV)} {bs:List ad} {σ:List (Nat×E)} {t:Env}
theorem jM.res (h:jM c keep nt env bs σ t) {i:Nat} {e:E} {v:AV} (hr:xT keep σ i=some e) (hv:bj c env bs e=some v):t.get .any i=v:=by
 unfold xT at hr;split at hr
 ·rename_i f hf;cases hr;exact h.LB i _ v hf hv
 ·rename_i hf;simp only [Option.map_eq_some_iff] at hr;obtain ⟨k,hk,rfl⟩:=hr;exact h.env i k v hf hk hv
theorem jM.xU (h:jM c keep nt env bs σ t) {x:Operand} {e:E} {v:AV} (hr:xU keep σ x=some e) (hv:bj c env bs e=some v):ev t x=v:=by
 cases x with
 | tmp i=>exact h.res hr hv
 | const u=>cases hr;cases hv;rfl
 | func f=>cases hr;cases hv;rfl
 | global g=>cases hr
theorem jM.flush (h:jM c keep nt env bs σ t) {vs:List (Nat×AV)} (hvs:nw c env bs (da keep σ keep 0)=some vs): ∀i k v,posOf keep i=some k→(c9 env vs).getD k none=some v→t.get .any i=v:=by
 intro i k v hk hv;have hg:=cP hk;have hlt:k<env.length:=by rw [h.len];exact (List.getElem?_eq_some_iff.1 hg).1
 cases hl:cY σ i with
 | some e=>have hm:=uc (keep:=keep) hl (l:=keep) (j:=k) (k0:=0) hg;rw [Nat.zero_add] at hm;obtain ⟨u,hu,hum⟩:=l9 hvs k e hm;rw [ub vs env (by rw [ke hvs];exact kZ _ _) hum hlt] at hv;cases hv;exact h.LB i e _ hl hu
 | none=>
  rw [jL vs env (fun p hp hpk=> ?_)] at hv
  ·exact h.env i k v hl hk hv
  ·have:p.1∈(da keep σ keep 0).map (·.1):=by rw [←ke hvs];exact List.mem_map_of_mem hp
   obtain ⟨⟨k',e⟩,h1,h2⟩:=List.mem_map.1 this;obtain ⟨j,i',h3,h4,h5⟩:=ju h1;simp only at h2;have:j=k:=by omega
   subst this;rw [hg] at h3;cases h3;rw [hl] at h5;cases h5
theorem jM.Is (h:jM c keep nt env bs σ t) {vs:List (Nat×AV)} (hvs:nw c env bs (da keep σ keep 0)=some vs):jM c keep nt (c9 env vs) bs (wA keep (da keep σ keep 0) σ) t where
 len:=by rw [jK];exact h.len
 has:=h.has
 uniq:=h.uniq.filter _
 LB:=fun i e v hl hv=>by
  obtain ⟨h1,h2⟩:=h.uniq.look hl;simp only [Bool.and_eq_true,List.all_eq_true,Bool.not_eq_true'] at h2;rw [oE vs env (fun p hp=> ?_)] at hv
  ·exact h.LB i e v h1 hv
  ·have:p.1∈(da keep σ keep 0).map (·.1):=by rw [←ke hvs];exact List.mem_map_of_mem hp
   obtain ⟨q,hq,hqp⟩:=List.mem_map.1 this;rw [←hqp];exact h2.2 q hq
 env:=fun i k v _ hk hv=>h.flush hvs i k v hk hv
end
end Go.Am
namespace Go.Am
section
variable {c:ax} {cf:aG} {ops:Array Oper}
def step1 (c:ax) (cf:aG) (ops:Array Oper) (id:Nat) (o:Oper) (s:St):Option St:=
 match bw ops s.t o.guard with
 | some true=>match bJ c cf o.op s.t s.b id with
  | some (v,e)=>match e.on s.b id with
   | some bs'=>some {t:=bd s.t o.dst v,b:=bs'}
   | .none=> .none
  | .none=> .none
 | some false=>some {t:=bd s.t o.dst (.aI []),b:=s.b}
 | .none=> .none
def gv (c:ax) (cf:aG) (ops:Array Oper) (dr:Bool) (base i:Nat) (o:Oper) (s:St):Option St:=
 match dr with
 | true=>aR c cf ops base i o s
 | false=>step1 c cf ops (b8 ops.toList i base) o s
def x4 (c:ax) (cf:aG) (ops:Array Oper) (dr:Bool) (base:Nat):List Oper→Nat→St→Option St
 | [],_,s=>some s
 | o::r,i,s=>match gv c cf ops dr base i o s with
  | some s'=>x4 c cf ops dr base r (i+1) s'
  | .none=> .none
theorem Ce (base:Nat): ∀(l:List Oper) (i:Nat) (s:St),Eh c cf ops base l i s=x4 c cf ops true base l i s
 | [],_,_=>rfl
 | o::r,i,s=>by
  simp only [Eh,x4,gv];cases aR c cf ops base i o s with
  | none=>rfl
  | some s'=>exact Ce base r _ _
theorem wD: ∀(l:List Oper) (i base:Nat) (o:Oper),l[i]?=some o→b8 l (i+1) base=next (b8 l i base) o.op
 | [],i,base,o,h=>by simp at h
 | p::r,0,base,o,h=>by
  simp at h;subst h;cases r <;> rfl
 | p::r,i+1,base,o,h=>by
  simp at h;simp only [b8];exact wD r i _ o h
theorem zK (b k:Nat) (op:Op):next (b+k) op=b+next k op:=by unfold next;split <;> omega
theorem zL (b:Nat): ∀(l:List Oper) (i k:Nat),b8 l i (b+k)=b+b8 l i k
 | _,0,_=>by cases ‹List Oper› <;> rfl
 | [],_+1,_=>rfl
 | o::r,i+1,k=>by simp only [b8];rw [zK];exact zL b r i _
theorem ma (bf:List Nat) (i b:Nat): ∀(l:List Oper) (j k:Nat),cK bf i l j (b+k)=(cK bf i l j k).map (b+ ·)
 | [],_,_=>rfl
 | o::r,j,k=>by
  simp only [cK];split <;> simp only [zK,ma bf i b r,List.map_cons]
theorem pD (base:Nat): ∀(l:List Oper) (i:Nat) (t:Env) (bs:List ad),(∀j,l[j]?=ops.toList[i+j]?)→oh c cf ops l (b8 ops.toList i base) t bs=x4 c cf ops false base l i ⟨t,bs⟩
 | [],_,_,_,_=>rfl
 | o::r,i,t,bs,h=>by
  have ho:ops.toList[i]?=some o:=by have:=h 0;rw [Nat.add_zero] at this;rw [←this];rfl
  have hr: ∀j,r[j]?=ops.toList[i+1+j]?:=fun j=>by rw [show i+1+j=i+(j+1) by omega,←h (j+1)];rfl
  simp only [oh,x4,gv,step1];rw [←wD _ _ _ _ ho];cases bw ops t o.guard with
  | none=>rfl
  | some b=>cases b with
   | false=>exact pD base r _ _ _ hr
   | true=>
    simp only;cases bJ c cf o.op t bs (b8 ops.toList i base) with
    | none=>rfl
    | some p=>
     obtain ⟨v,e⟩:=p;simp only;cases e.on bs (b8 ops.toList i base) with
     | none=>rfl
     | some bs'=>exact pD base r _ _ _ hr
theorem x5 {L M:List Nat} (h: ∀x∈M,x∈L) (bs:List ad):Sub (aP L bs) (aP M bs):=fun k hk=>by
 simp only [ad.at,List.getD_eq_getElem?_getD] at hk⊢;rw [bP] at hk;rw [bP,bP];by_cases h1:k∈L∧k<bs.length
 ·rw [if_pos h1] at hk;simp at hk
 ·rw [if_neg h1,if_neg (fun h2=>h1 ⟨h _ h2.1,h2.2⟩)]
variable {base:Nat} {kl:List Nat} {keep:List Nat} {nt:Nat} {env:List (Option AV)} {bs:List ad} {σ:List (Nat×E)} {t:Env}
theorem jM.want (h:jM c keep nt env bs σ t) {g:Option (Nat×Bool)} {x:E} {w:Bool} (hg:guardOf ops keep σ g=some (some (x,w))) {u:AV} (hu:bj c env bs x=some u):bw ops t g=rO (some u) w:=by
 unfold guardOf at hg;split at hg
 ·cases hg
 ·split at hg
  ·cases hg
  ·rename_i d hd;split at hg
   ·rename_i e he;cases hg;simp only [bw,hd];rw [h.res he hu];simp only [rO];cases u <;> rfl
   ·cases hg
theorem wE {g:Option (Nat×Bool)} (hg:guardOf ops keep σ g=some none):bw ops t g=some true:=by
 unfold guardOf at hg;split at hg
 ·rfl
 ·split at hg
  ·cases hg
  ·split at hg <;> cases hg
theorem Iu (hs: ∀i,i<nt→t.has i=true) (d:Option Nat) (v:AV): ∀i,i<nt→(bd t d v).has i=true:=fun i hi=>by
 cases d with
 | none=>exact hs i hi
 | some j=>simp only [bd];rw [Tr.eS];exact hs i hi
theorem Iv {op:Op} {p:Nat} (h:fO op=some p):p∈op.operands.toList.filterMap Gr:=by
 refine List.mem_filterMap.2 ⟨.tmp p,?_,rfl⟩;unfold fO at h;split at h
 ·rename_i q hq;cases h;unfold eA at hq;split at hq
  ·cases hq;simp [Op.operands]
  ·rename_i args ts;split at hq
   ·rename_i q2 hq2;cases hq;simp only [Op.operands,Call.operands];simp [hq2]
   ·cases hq
  ·cases hq
 ·unfold cL at h;split at h
  ·cases h;simp [Op.operands]
  ·cases h;simp [Op.operands]
  ·cases h
theorem Iw {c:ax} {ops:Array Oper} {j:Nat} {op:Op} {t:Env} (h: ∀p q,fO op=some p→fv ops j p=some q→t.get .any p=t.get .any q):bX c ops j op t=true:=by
 unfold bX;split
 ·rfl
 ·rename_i p hp;split
  ·rfl
  ·rename_i q hq;rw [h p q hp hq];simp
theorem zM (h:jM c keep nt env bs σ t) {j:Nat} {op:Op} (ha: ∀p,fO op=some p→ ∀e,xT keep σ p=some e→ ∃u,bj c env bs e=some u) {g:Option (E×Bool)} (hgs: ∀x,bj c env bs (ep g x)=bj c env bs x) (hr:zD c ops keep g σ true j op=true):bX c ops j op t=true:=by
 cases hany:(tx c ops || mO ops) with
 | false=>rw [Bool.or_eq_false_iff] at hany;exact Gg hany.1 hany.2
 | true=>
  refine Iw fun p q hp hq=> ?_;unfold zD at hr;rw [hp,hany] at hr;simp only [Bool.and_self,hq] at hr;split at hr
  ·rename_i a b ha' hb;have hab:=b9 hr;obtain ⟨u,hu⟩:=ha p hp a ha';rw [h.res ha' hu,h.res hb (by rw [←hgs b,←hab,hgs a];exact hu)]
  ·cases hr
theorem zN (h:jM c keep nt env bs σ t) {g:Option (E×Bool)} {j:Nat} {op:Op} {e:E} {v:AV} (hp:l5 c (fun x=>(xU keep σ x).map (ep g)) op=some e) (hgs: ∀x,bj c env bs (ep g x)=bj c env bs x) (hv:bj c env bs e=some v) (hr:zD c ops keep g σ true j op=true):bX c ops j op t=true:=by
 refine zM h (fun p hpk a ha=> ?_) hgs hr
 have one: ∀x,((xU keep σ (.tmp p)).map (ep g))=some x→(∃u,bj c env bs x=some u)→ ∃u,bj c env bs a=some u:=fun x hx ⟨u,hu⟩=>by
  simp only [xU,ha,Option.map_some,Option.some.injEq] at hx;subst hx;exact ⟨u,by rw [←hgs];exact hu⟩
 unfold fO at hpk;split at hpk
 ·rename_i p' hpk';cases hpk;unfold eA at hpk';split at hpk'
  ·cases hpk';simp only [l5,gr,Option.map_eq_some_iff] at hp;obtain ⟨x,hx,rfl⟩:=hp;refine one x (by simpa using hx) ?_;simp only [bj] at hv;cases hx2:bj c env bs x with
   | none=>rw [hx2] at hv;cases hv
   | some u=>exact ⟨u,rfl⟩
  ·rename_i args ts;split at hpk'
   ·rename_i p' hargs;cases hpk';simp only [l5,hargs] at hp;split at hp
    ·rename_i x _ _ hxx;simp only [List.cons.injEq,and_true] at hxx;subst hxx;split at hp
     ·simp only [gr,Option.map_eq_some_iff] at hp;obtain ⟨x,hx,rfl⟩:=hp;refine one x (by simpa using hx) ?_;simp only [bj] at hv;cases hx2:bj c env bs x with
      | none=>rw [hx2] at hv;cases hv
      | some u=>exact ⟨u,rfl⟩
     ·simp only [gr,Option.map_eq_some_iff] at hp;obtain ⟨x,hx,rfl⟩:=hp;refine one x (by simpa using hx) ?_;simp only [bj] at hv;cases hx2:bj c env bs x with
      | none=>rw [hx2] at hv;cases hv
      | some u=>exact ⟨u,rfl⟩
    ·cases hp
   ·cases hpk'
  ·cases hpk'
 ·unfold cL at hpk;split at hpk
  ·rename_i hno;simp [eA] at hno
  ·cases hpk;rename_i ty lo hi _;simp only [l5] at hp
   have fin: ∀x,((xU keep σ (.tmp p)).map (ep g))=some x→bj c env bs x≠none→ ∃u,bj c env bs a=some u:=fun x hx hne=>by
    refine one x hx ?_;cases hx2:bj c env bs x with
    | none=>exact absurd hx2 hne
    | some u=>exact ⟨u,rfl⟩
   split at hp
   ·split at hp
    ·simp only [gr,Option.map_eq_some_iff] at hp;obtain ⟨x,hx,rfl⟩:=hp;exact fin x (by simpa using hx) (fun e=>by simp [bj,e,Dv] at hv)
    ·unfold py at hp;split at hp
     ·rename_i x y hx hy;cases hp;exact fin x hx (fun e=>by simp [bj,e,Il] at hv)
     ·cases hp
    ·unfold py at hp;split at hp
     ·rename_i x y hx hy;cases hp;exact fin x hx (fun e=>by simp [bj,e,Il] at hv)
     ·cases hp
    ·unfold zz at hp;split at hp
     ·rename_i x y z hx hy hz;cases hp;exact fin x hx (fun e=>by simp [bj,e,PZ] at hv)
     ·cases hp
   ·cases hp
  ·cases hpk
theorem ud {dr:Bool} {i:Nat} {o:Oper} {v:AV} (hw:bw ops t o.guard=some true) (hd: ∀(cf:aG) bs' id,Sub (seen base kl bs) bs'→bJ c cf o.op t bs' id=some (v,.none)) (hk:dr=true→ ∀x∈cK (fh ops) i ops.toList 0 0,x∈kl) (hroot:dr=true→bX c ops i o.op t=true):
  gv c cf ops dr base i o ⟨t,bs⟩=some ⟨bd t o.dst v,bs⟩:=by
 cases dr with
 | false=>simp only [gv,step1,hw];rw [hd _ _ _ (dz _ _)];rfl
 | true=>
  simp only [gv,aR,hw];split
  ·rw [hd _ _ _ (dz _ _)];rfl
  ·rw [hd _ _ _ ?_]
   ·simp only [hroot rfl]
   unfold dc;refine x5 (fun x hx=> ?_) bs;rw [show base=base+0 from rfl,ma] at hx;obtain ⟨y,hy,rfl⟩:=List.mem_map.1 hx;exact List.mem_map_of_mem (hk rfl y hy)
theorem ue {dr:Bool} {i:Nat} {o:Oper} (hw:bw ops t o.guard=some false):gv c cf ops dr base i o ⟨t,bs⟩=some ⟨bd t o.dst (.aI []),bs⟩:=by cases dr <;> simp only [gv,step1,aR,hw]
theorem zO {i:Nat} {v:AV}: ∀{vs:List (Nat×AV)},(∀p∈vs,p.1=i→p.2=v)→(∃p∈vs,p.1=i)→look vs i=v
 | [],_,⟨_,h,_⟩=>by cases h
 | (j,u)::r,h1,⟨p,hp,hpi⟩=>by
  simp only [look];split
  ·rename_i hij;exact h1 (j,u) List.mem_cons_self hij.symm
  ·rename_i hij;refine zO (fun q hq=>h1 q (List.mem_cons_of_mem _ hq)) ?_;rcases List.mem_cons.1 hp with rfl | hp
   ·exact absurd hpi.symm hij
   ·exact ⟨p,hp,hpi⟩
theorem DD {g:Option (E×Bool)} (hg: ∀e,bj c env bs (ep g e)=bj c env bs e): ∀{l:List Nat} {xs:List (Nat×E)} {vs:List (Nat×AV)},qK keep σ l=some xs→nw c env bs (xs.map fun p=>(p.1,ep g p.2))=some vs→ ∀i∈l,∀e,xT keep σ i=some e→ ∃u,bj c env bs e=some u
 | [],_,_,_,_=>fun i hi=>by cases hi
 | i::r,xs,vs,h1,h2=>by
  simp only [qK] at h1;split at h1
  ·rename_i e l he hl;cases h1;simp only [List.map_cons,nw] at h2;split at h2
   ·rename_i v hv;split at h2
    ·rename_i vs' hvs';intro j hj e' he';rcases List.mem_cons.1 hj with rfl | hj
     ·rw [he] at he';cases he';exact ⟨v,by rw [←hg];exact hv⟩
     ·exact DD hg hl hvs' j hj e' he'
    ·cases h2
   ·cases h2
  ·cases h1
theorem jM.args (h:jM c keep nt env bs σ t) {g:Option (E×Bool)} (hg: ∀e,bj c env bs (ep g e)=bj c env bs e): ∀{l:List Nat} {xs:List (Nat×E)} {vs:List (Nat×AV)},qK keep σ l=some xs→nw c env bs (xs.map fun p=>(p.1,ep g p.2))=some vs→(∀p∈vs,p.2=t.get .any p.1)∧ ∀i∈l,∃p∈vs,p.1=i
 | [],xs,vs,h1,h2=>by
  cases h1;cases h2;exact ⟨fun p hp=>(by cases hp),fun i hi=>by cases hi⟩
 | i::r,xs,vs,h1,h2=>by
  simp only [qK] at h1;split at h1
  ·rename_i e l he hl;cases h1;simp only [List.map_cons,nw] at h2;split at h2
   ·rename_i v hv;split at h2
    ·rename_i vs' hvs';cases h2;obtain ⟨k1,k2⟩:=jM.args h hg hl hvs';rw [hg] at hv;refine ⟨fun p hp=> ?_,fun j hj=> ?_⟩
     ·rcases List.mem_cons.1 hp with rfl | hp
      ·exact (h.res he hv).symm
      ·exact k1 p hp
     ·rcases List.mem_cons.1 hj with rfl | hj
      ·exact ⟨_,List.mem_cons_self,rfl⟩
      ·obtain ⟨p,hp,hpi⟩:=k2 j hj;exact ⟨p,List.mem_cons_of_mem _ hp,hpi⟩
    ·cases h2
   ·cases h2
  ·cases h1
theorem kg {dr:Bool} (hk:dr=true→ ∀i,∀x∈cK (fh ops) i ops.toList 0 0,x∈kl): ∀(l:List Oper) (i:Nat) (σ:List (Nat×E)) (its:List It) (env:List (Option AV)) (bs:List ad) (t:Env) (env':List (Option AV)) (bs':List ad),
  kT c ops keep nt dr l i σ=some its→jM c keep nt env (seen base kl bs) σ t→ba c cf base kl its env bs=some (env',bs')→ ∃t',x4 c cf ops dr base l i ⟨t,bs⟩=some ⟨t',bs'⟩∧jM c keep nt env' (seen base kl bs') [] t'
 | [],i,σ,its,env,bs,t,env',bs',hl,hr,hrun=>by
  simp only [kT,Option.some.injEq] at hl;subst hl;refine ⟨t,?_⟩;have hu:kY ([]:List (Nat×E)):=fun i e h=>by cases h
  unfold Dz at hrun;split at hrun
  ·rename_i hfl;simp only [ba,Option.some.injEq,Prod.mk.injEq] at hrun;obtain ⟨rfl,rfl⟩:=hrun;refine ⟨rfl,hr.len,hr.has,hu,fun i e v h=>(by cases h),fun i k v _ hk hv=> ?_⟩;exact hr.flush (vs:= []) (by rw [hfl];rfl) i k v hk hv
  ·simp only [ba] at hrun;split at hrun
   ·rename_i vs hvs;simp only [Option.some.injEq,Prod.mk.injEq] at hrun;obtain ⟨rfl,rfl⟩:=hrun;exact ⟨rfl,by rw [jK];exact hr.len,hr.has,hu,fun i e v h=>(by cases h),fun i k v _ hk hv=>hr.flush hvs i k v hk hv⟩
   ·cases hrun
 | o::r,i,σ,its,env,bs,t,env',bs',hl,hr,hrun=>by
  simp only [kT] at hl;split at hl
  ·cases hl
  ·rename_i g hg;split at hl
   ·-- an expression
    rename_i e d hpe hdst;replace hpe:=zC hpe;split at hl
    ·rename_i hdnt;split at hl
     ·rename_i its' hits
      have key:(bj c env (seen base kl bs) (tU g e)).isSome=true∧ba c cf base kl its' env bs=some (env',bs'):=by
       split at hl
       ·rename_i hcov;cases hl;refine ⟨?_,hrun⟩;unfold covered at hcov;rw [Bool.or_eq_true] at hcov;rcases hcov with hc | hc
        ·cases hw:tU g e <;> rw [hw] at hc <;> simp only [E.sure,Bool.false_eq_true] at hc;rfl
        ·rw [List.any_eq_true] at hc;obtain ⟨f,hf,hwf⟩:=hc;exact Cb hwf (qO hrun f hf)
       ·cases hl;simp only [ba,nw] at hrun;split at hrun
        ·rename_i vs hvs;split at hvs
         ·rename_i v hv;cases hvs;refine ⟨by unfold seen;rw [hv];rfl,?_⟩;simp only [c9] at hrun;rw [List.set_eq_of_length_le (by rw [hr.len];exact Nat.le_refl _)] at hrun;exact hrun
         ·cases hvs
        ·cases hrun
      obtain ⟨hsome,hrun⟩:=key;obtain ⟨v,hv⟩:=Option.isSome_iff_exists.1 hsome
      have hstep:gv c cf ops dr base i o ⟨t,bs⟩=some ⟨bd t o.dst v,bs⟩:=by
       have pure: ∀(hgs: ∀x,bj c env (seen base kl bs) (ep g x)=bj c env (seen base kl bs) x) (hev:bj c env (seen base kl bs) e=some v) (cf:aG) (bs':List ad) (id:Nat),Sub (seen base kl bs) bs'→bJ c cf o.op t bs' id=some (v,.none):=by intro hgs hev cf bs' id hs;refine tP hs trivial ?_;rw [Gw];refine Iq (ρ:=fun x=>(xU keep σ x).map (ep g)) (fun x e v hx hv=> ?_) hpe hev id;simp only [Option.map_eq_some_iff] at hx;obtain ⟨e0,h0,rfl⟩:=hx;rw [hgs] at hv;exact hr.xU h0 hv
       cases g with
       | none=>exact ud (wE hg) (pure (fun _=>rfl) hv) (fun h=>hk h i) (fun h=>by subst h;exact zN hr (g:=none) hpe (fun _=>rfl) hv (Bool.and_eq_true _ _▸hdnt:_∧_).2)
       | some q=>
        obtain ⟨x,w⟩:=q;simp only [tU,bj] at hv;rcases gu hv with ⟨h1,h2⟩ | ⟨h1,rfl⟩ | ⟨⟨l,h1⟩,rfl⟩
        ·refine ud ?_ (pure (fun y=>hZ h1 y) h2) (fun h=>hk h i) (fun h=>by subst h;exact zN hr (g:=some (x,w)) hpe (fun y=>hZ h1 y) h2 (Bool.and_eq_true _ _▸hdnt:_∧_).2);rw [hr.want hg h1];simp [rO]
        ·refine ue ?_;rw [hr.want hg h1];cases w <;> rfl
        ·refine ue ?_;rw [hr.want hg h1];rfl
      rw [hdst] at hstep;have hd:t.has d=true:=hr.has d (by have h:=(Bool.and_eq_true _ _▸hdnt:_∧_).1;simpa using h)
      have hrel:jM c keep nt env (seen base kl bs) ((d,tU g e)::σ.filter fun p=>p.1 !=d) (t.set d v):=by
       refine ⟨hr.len,fun i hi=>by rw [Tr.eS];exact hr.has i hi,hr.uniq.cons _ _,fun j f u hj hu=> ?_,fun j k u hj hk hu=> ?_⟩
       ·simp only [cY] at hj;split at hj
        ·rename_i hjd;subst hjd;cases hj;rw [hv] at hu;cases hu;exact Tr.di _ _ _ hd
        ·rename_i hjd;rw [Tr.aW _ _ _ (Ne.symm hjd)];exact hr.LB j f u (hr.uniq.look hj).1 hu
       ·simp only [cY] at hj;split at hj
        ·cases hj
        ·rename_i hjd;rw [Tr.aW _ _ _ (Ne.symm hjd)];refine hr.env j k u ?_ hk hu;cases hlj:cY σ j with
         | none=>rfl
         | some f=>obtain ⟨f',hf'⟩:=oF (σ:=σ.filter fun p=>p.1 !=d) (List.mem_filter.2 ⟨kf hlj,by simpa using hjd⟩);rw [hj] at hf';cases hf'
      obtain ⟨t',h1,h2⟩:=kg hk r (i+1) _ _ env bs _ env' bs' hits hrel hrun;refine ⟨t',?_,h2⟩;simp only [x4,hstep];exact h1
     ·cases hl
    ·cases hl
   ·-- an operation
    split at hl
    ·cases hl
    ·rename_i g' hg';split at hl
     ·cases hl
     ·rename_i xs hxs;split at hl
      ·rename_i hdok;split at hl
       ·rename_i its' hits;simp only [Option.some.injEq] at hl;subst hl
        -- the variables are set
        obtain ⟨vs,hvs,hrun⟩: ∃vs,nw c env (seen base kl bs) (da keep σ keep 0)=some vs∧ba c cf base kl (.cW (sL c ops dr i o.op) (b8 ops.toList i 0) (zA keep o.dst) g' o.op (xs.map fun p=>(p.1,ep g' p.2))::its') (c9 env vs) bs=some (env',bs'):=by
         unfold Dz at hrun;split at hrun
         ·rename_i hfl;exact ⟨[],by rw [hfl];rfl,hrun⟩
         ·rw [ba] at hrun;split at hrun
          ·rename_i vs hvs;exact ⟨vs,hvs,hrun⟩
          ·cases hrun
        have hr1:=hr.Is hvs;have hall:=hr.flush hvs
        -- what is behind the operation
        have after: ∀(v:AV) (bs2:List ad),gv c cf ops dr base i o ⟨t,bs⟩=some ⟨bd t o.dst v,bs2⟩→ba c cf base kl its' (tS (c9 env vs) (zA keep o.dst) v) bs2=some (env',bs')→
          ∃t',x4 c cf ops dr base (o::r) i ⟨t,bs⟩=some ⟨t',bs'⟩∧jM c keep nt env' (seen base kl bs') [] t':=by
         intro v bs2 hstep hrun2
         have hrel:jM c keep nt (tS (c9 env vs) (zA keep o.dst) v) (seen base kl bs2) (JX keep o.dst (wA keep (da keep σ keep 0) σ)) (bd t o.dst v):=by
          refine ⟨?_,Iu hr.has _ _,hr1.uniq.filter _,fun j f u hj hu=> ?_,fun j k u hj hk hu=> ?_⟩
          ·have:=hr1.len;cases zA keep o.dst with
           | none=>exact this
           | some p=>simp only [tS,List.length_set];exact this
          ·obtain ⟨h1,h2⟩:=hr1.uniq.look hj;simp only [Bool.and_eq_true,Bool.not_eq_true'] at h2;rw [tZ h2.1 (bs':=seen base kl bs)] at hu;cases hd:o.dst with
           | none=>rw [hd] at hu;exact hr1.LB j f u h1 hu
           | some d=>
            rw [hd] at hu h2;simp only [Bool.and_eq_true,bne_iff_ne] at h2;simp only [bd];rw [Tr.aW _ _ _ (Ne.symm h2.2.1)];refine hr1.LB j f u h1 ?_;simp only [zA] at hu;cases hp:posOf keep d with
            | none=>rw [hp] at hu;exact hu
            | some p=>rw [hp] at hu h2;simp only [tS] at hu;rw [x3 (by simpa using h2.2.2)] at hu;exact hu
          ·cases hd:o.dst with
           | none=>rw [hd] at hu;exact hall j k u hk hu
           | some d=>
            rw [hd] at hu;have hdn:d<nt:=by have hdok0:=(Bool.and_eq_true _ _▸hdok:_∧_).1;have hdok1:=(Bool.and_eq_true _ _▸hdok0:_∧_).1;rw [hd] at hdok1;simpa [JY] using hdok1
            simp only [bd];by_cases hjd:j=d
            ·subst hjd;simp only [zA,hk,tS] at hu;have hlt:k<(c9 env vs).length:=by rw [hr1.len];exact (List.getElem?_eq_some_iff.1 (cP hk)).1
             simp [List.getD_eq_getElem?_getD,hlt] at hu;subst hu;exact Tr.di _ _ _ (hr.has j hdn)
            ·rw [Tr.aW _ _ _ (Ne.symm hjd)];refine hall j k u hk ?_;simp only [zA] at hu;cases hp:posOf keep d with
             | none=>rw [hp] at hu;exact hu
             | some p=>rw [hp] at hu;simp only [tS] at hu;have:p≠k:=fun e=>hjd (qP hk (e▸hp));simp only [List.getD_eq_getElem?_getD] at hu⊢;rw [List.getElem?_set_ne this] at hu;exact hu
         obtain ⟨t',h1,h2⟩:=kg hk r (i+1) _ _ _ bs2 _ env' bs' hits hrel hrun2;refine ⟨t',?_,h2⟩;simp only [x4,hstep];exact h1
        simp only [ba] at hrun;split at hrun
        ·-- it is wanted
         rename_i hw
         have hwant:bw ops t o.guard=some true∧ ∀e,bj c (c9 env vs) (seen base kl bs) (ep g' e)=bj c (c9 env vs) (seen base kl bs) e:=by
          cases g' with
          | none=>exact ⟨wE hg',fun _=>rfl⟩
          | some q=>
           obtain ⟨x,w⟩:=q;simp only [rP] at hw;cases hx:bj c (c9 env vs) (seen base kl bs) x with
           | none=>rw [hx] at hw;cases hw
           | some u=>
            rw [hx] at hw;refine ⟨by rw [hr1.want hg' hx];exact hw,fun e=> ?_⟩;simp only [rO] at hw;split at hw
            ·rename_i b hb;cases hb;have:b=w:=by simpa using hw
             subst this;exact hZ hx e
            ·cases hw
            ·cases hw
         split at hrun
         ·rename_i vs' hvs';obtain ⟨k1,k2⟩:=hr1.args hwant.2 hxs hvs'
          have hops: ∀x∈o.op.operands,P0 vs' x=ev t x:=by
           intro x hx;cases x with
           | tmp j=>refine zO (fun p hp hpj=>by rw [k1 p hp,hpj];rfl) (k2 j (List.mem_append_left _ ?_));exact List.mem_filterMap.2 ⟨.tmp j,by simpa using hx,rfl⟩
           | const u=>rfl
           | func f=>rfl
           | global g=>rfl
          have hdo: ∀(cf:aG) bs3 id,dv c cf o.op (P0 vs') bs3 id=bJ c cf o.op t bs3 id:=fun cf bs3 id=>by rw [Gw];exact zJ c cf hops bs3 id
          have hid:base+b8 ops.toList i 0=b8 ops.toList i base:=by rw [←zL];rfl
          split at hrun
          ·rename_i v bs2 heff;refine after v bs2 ?_ hrun;unfold Ey at heff;split at heff
           ·rename_i hm;rw [hdo,hid] at heff;unfold Dx at heff
            have hm':dr=true→alone ops i=true:=fun h=>by
             subst h;unfold sL at hm;split at hm
             ·cases hm
             ·rename_i ha;simpa using ha
            split at heff
            ·rename_i v' e hdoe;split at heff
             ·rename_i bs3 hon;cases heff;cases dr with
              | false=>simp only [gv,step1,hwant.1,hdoe,hon]
              | true=>simp only [gv,aR,hwant.1,hm' rfl,hdoe,hon]
             ·cases heff
            ·cases heff
           ·rename_i ms hm;unfold sL at hm;split at hm
            ·rename_i ha;simp only [Bool.and_eq_true,Bool.not_eq_true'] at ha;cases hm;simp only [List.tail_cons,List.headD_cons] at heff;rw [zB] at heff;rw [hdo,hid] at heff
             have hmask:aP ((cK (fh ops) i ops.toList 0 0).map (base+ ·)) bs=dc ops base i bs:=by unfold dc;rw [←ma];rfl
             rw [hmask] at heff;rw [ha.1]
             have hrt:bX c ops i o.op t=true:=by have h2:=(Bool.and_eq_true _ _▸hdok:_∧_).2;rw [ha.1] at h2;exact zM hr1 (fun p hp=>DD hwant.2 hxs hvs' p (List.mem_append_left _ (Iv hp))) hwant.2 h2
             unfold Dw at heff;split at heff
             ·rename_i v' hdoe;cases heff;simp only [gv,aR,hwant.1,ha.2,hdoe,hrt]
             ·rename_i v' x hdoe;split at heff
              ·rename_i hask;split at heff
               ·rename_i hdead;cases heff;simp only [gv,aR,hwant.1,ha.2,hdoe,hask,hdead]
               ·cases heff
              ·cases heff
             ·rename_i v' kk ty cs hdoe;split at heff
              ·rename_i hcalm;cases heff;rw [Bool.and_eq_true] at hcalm;have hcond:(dr&& !alone ops i&&cn o.op)=true:=by rw [ha.1,ha.2,hcalm.1];rfl
               have hcond2:(dr&& !alone ops i&&(cn o.op || (eG o.op&&bA ops i o.op)))=true:=by rw [ha.1,ha.2,hcalm.1];rfl
               have hfit:bA ops i o.op=true:=by have hdok0:=(Bool.and_eq_true _ _▸hdok:_∧_).1;have h2:=(Bool.and_eq_true _ _▸hdok0:_∧_).2;unfold JZ at h2;rw [hcond] at h2;exact h2
               have hnear:oB c ops dr i o.op=gn ops i:=by unfold oB;rw [hcond2]
               have hall2:((gn ops i).all fun p=>eN kk (t.get .any p))=true:=by rw [List.all_eq_true];intro p hp;obtain ⟨q,hq,hqp⟩:=k2 p (List.mem_append_right _ (by rw [hnear];exact hp));have h3:=hcalm.2;unfold zy at h3;rw [List.all_eq_true] at h3;have h4:=h3 q hq;rw [k1 q hq,hqp,wj hfit hp,Bool.false_or] at h4;exact h4
               simp only [gv,aR,hwant.1,ha.2,hdoe,hfit,rF,hcalm.1,hrt,hall2,Bool.and_self]
              ·cases heff
             ·rename_i v' kk sh sz es hdoe;split at heff
              ·rename_i hcalm;cases heff;rw [Bool.and_eq_true] at hcalm
               have hgr:(eG o.op&&bA ops i o.op)=true:=by have h1:=hcalm.1;rw [Ez] at h1;exact h1
               have hfit:bA ops i o.op=true:=(Bool.and_eq_true _ _▸hgr:_∧_).2;have hgrow:eG o.op=true:=(Bool.and_eq_true _ _▸hgr:_∧_).1;have hcond2:(dr&& !alone ops i&&(cn o.op || (eG o.op&&bA ops i o.op)))=true:=by rw [ha.1,ha.2,hgr];simp
               have hnear:oB c ops dr i o.op=gn ops i:=by unfold oB;rw [hcond2]
               have hall2:((gn ops i).all fun p=>eN kk (t.get .any p))=true:=by rw [List.all_eq_true];intro p hp;obtain ⟨q,hq,hqp⟩:=k2 p (List.mem_append_right _ (by rw [hnear];exact hp));have h3:=hcalm.2;unfold zy at h3;rw [List.all_eq_true] at h3;have h4:=h3 q hq;rw [k1 q hq,hqp,wj hfit hp,Bool.false_or] at h4;exact h4
               simp only [gv,aR,hwant.1,ha.2,hdoe,hfit,rF,hgrow,hrt,hall2,Bool.and_self]
              ·cases heff
             ·rename_i v' bx hdoe;split at heff
              ·rename_i hcalm;cases heff;rw [Bool.and_eq_true,zB] at hcalm;have hap:=hcalm.1
               have hcv:dY o.op=true:=by have h1:=hap;simp only [bO,Bool.and_eq_true] at h1;exact zn h1.1.1
               obtain ⟨hns,hng⟩:=wB hcv
               have hnear:oB c ops dr i o.op=jk ops i:=by unfold oB;rw [hns,hng,ha.1,ha.2,hap];rfl
               have hall2:((jk ops i).all fun p=>iC bs.length (t.get .any p))=true:=by rw [List.all_eq_true];intro p hp;obtain ⟨q,hq,hqp⟩:=k2 p (List.mem_append_right _ (by rw [hnear];exact hp));have h3:=hcalm.2;rw [List.all_eq_true] at h3;have h4:=h3 q hq;rw [k1 q hq,hqp] at h4;exact h4
               rw [hap] at hdoe;simp only [gv,aR,hwant.1,ha.2,hap,hdoe,hall2,Bool.and_self]
              ·cases heff
             ·cases heff
            ·cases hm
          ·cases hrun
         ·cases hrun
        ·-- it is not
         rename_i hw;refine after (.aI []) bs (ue ?_) hrun;cases g' with
         | none=>simp [rP] at hw
         | some q=>
          obtain ⟨x,w⟩:=q;simp only [rP] at hw;cases hx:bj c (c9 env vs) (seen base kl bs) x with
          | none=>rw [hx] at hw;cases hw
          | some u=>rw [hx] at hw;rw [hr1.want hg' hx];exact hw
        ·cases hrun
       ·cases hl
      ·cases hl
end
end Go.Am
