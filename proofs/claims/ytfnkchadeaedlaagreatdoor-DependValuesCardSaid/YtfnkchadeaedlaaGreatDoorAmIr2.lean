/-
 What expressions ask, and what they hang on. The plainer form of a region is sound: where its steps have an end, the machine's operations have it, too. The plainer form of a region is sound: where its steps have an end, the machine's operations have it, too. The plainer form of a region is sound: the operations one by one.
-/
import Derived.Test.YtfnkchadeaedlaaGreatDoorAmIr
set_option linter.all false
namespace Go.Am
theorem A6: ∀{a b:List UInt8},EV a b=true→a=b
 | [], [],_=>rfl
 | [],_::_,h=>by cases h
 | _::_, [],h=>by cases h
 | a::l,b::m,h=>by
  simp only [EV,Bool.and_eq_true,beq_iff_eq] at h;rw [h.1,A6 h.2]
theorem Ga: ∀{a b:AV},Di a b=true→a=b:=by
 intro a b h;unfold Di at h;split at h
 ·simp only [Bool.and_eq_true,beq_iff_eq] at h;rw [h.1,h.2]
 ·rw [beq_iff_eq] at h;rw [h]
 ·rw [A6 h]
 ·rfl
 ·cases h
theorem cw: ∀{a b:E},aQ a b=true→a=b:=by
 intro a
 induction a <;> intro b h <;> cases b <;> simp only [aQ,Bool.and_eq_true,beq_iff_eq,Bool.false_eq_true] at h
 case cst.cst=>rw [Ga h]
 case var.var=>rw [h]
 case bin.bin ih1 ih2 _ _ _ _=>obtain ⟨⟨⟨rfl,rfl⟩,h1⟩,h2⟩:=h;rw [ih1 h1,ih2 h2]
 case un.un ih _ _=>obtain ⟨rfl,h1⟩:=h;rw [ih h1]
 case pick.pick ih1 ih2 ih3 _ _ _=>obtain ⟨⟨h1,h2⟩,h3⟩:=h;rw [ih1 h1,ih2 h2,ih3 h3]
 case guard.guard ih1 ih2 _ _ _=>obtain ⟨⟨h1,rfl⟩,h3⟩:=h;rw [ih1 h1,ih2 h3]
 case and.and ih1 ih2 _ _=>rw [ih1 h.1,ih2 h.2]
 case or.or ih1 ih2 _ _=>rw [ih1 h.1,ih2 h.2]
 case index.index ih1 ih2 _ _ _=>obtain ⟨⟨rfl,h1⟩,h2⟩:=h;rw [ih1 h1,ih2 h2]
 case field.field ih _ _ _=>obtain ⟨⟨rfl,h1⟩,rfl⟩:=h;rw [ih h1]
 case extract.extract ih _ _=>obtain ⟨h1,rfl⟩:=h;rw [ih h1]
 case conv.conv ih _ _ _=>obtain ⟨⟨rfl,rfl⟩,h1⟩:=h;rw [ih h1]
 case toInt.toInt ih _ _=>obtain ⟨rfl,h1⟩:=h;rw [ih h1]
 case len.len ih _ _=>obtain ⟨rfl,h1⟩:=h;rw [ih h1]
 case lenS.lenS ih _=>rw [ih h]
 case slA.slA ih _=>rw [ih h]
 case slL.slL ih1 ih2 _ _=>rw [ih1 h.1,ih2 h.2]
 case slH.slH ih1 ih2 _ _=>rw [ih1 h.1,ih2 h.2]
 case slB.slB ih1 ih2 ih3 _ _ _=>rw [ih1 h.1.1,ih2 h.1.2,ih3 h.2]
 case load.load ih _ _=>obtain ⟨rfl,h1⟩:=h;rw [ih h1]
 case faddr.faddr ih _ _ _=>obtain ⟨⟨rfl,h1⟩,rfl⟩:=h;rw [ih h1]
 case iaddr.iaddr ih1 ih2 _ _ _=>obtain ⟨⟨rfl,h1⟩,h2⟩:=h;rw [ih1 h1,ih2 h2]
 case nilck.nilck ih _=>rw [ih h]
theorem ew {o:Out} {v:AV} (h:rI o=some v):o=some (v,.none):=by
 unfold rI at h;split at h
 ·cases h;rfl
 ·cases h
theorem dM {x:Option AV} {f:AV→Option AV} {v:AV} (h:ES x f=some v): ∃a,x=some a∧f a=some v:=by
 cases x with
 | none=>cases h
 | some a=>exact ⟨a,rfl,h⟩
theorem eO {x y:Option AV} {f:AV→AV→Option AV} {v:AV} (h:Kp x y f=some v): ∃a b,x=some a∧y=some b∧f a b=some v:=by
 cases x with
 | none=>cases h
 | some a=>cases y with
  | none=>cases h
  | some b=>exact ⟨a,b,rfl,rfl,h⟩
theorem mI {x y z:Option AV} {f:AV→AV→AV→Option AV} {v:AV} (h:Sb x y z f=some v): ∃a b d,x=some a∧y=some b∧z=some d∧f a b d=some v:=by
 cases x with
 | none=>cases h
 | some a=>cases y with
  | none=>cases h
  | some b=>cases z with
   | none=>cases h
   | some d=>exact ⟨a,b,d,rfl,rfl,rfl,h⟩
theorem gR {g e:Option AV} {w:Bool} {v:AV} (h:lE g w e=some v):(g=some (.bool w)∧e=some v)∨(g=some (.bool (!w))∧v= .aT [])∨(∃l,g=some (.aT l))∧v= .aT []:=by
 unfold lE at h;split at h
 ·rename_i b;split at h
  ·rename_i hb;rw [beq_iff_eq] at hb;subst hb;exact .inl ⟨rfl,h⟩
  ·rename_i hb;cases h;refine .inr (.inl ⟨?_,rfl⟩);cases b <;> cases w <;> simp_all
 ·cases h;exact .inr (.inr ⟨⟨_,rfl⟩,rfl⟩)
 ·cases h
theorem fy (w:Bool) (e:Option AV):lE (some (.bool w)) w e=e:=by simp [lE]
theorem rM (w:Bool) (e:Option AV):lE (some (.bool (!w))) w e=some (.aT []):=by cases w <;> rfl
theorem lI (w:Bool) (l:List AV) (e:Option AV):lE (some (.aT l)) w e=some (.aT []):=rfl
theorem kN {p b:Option AV} {v:AV} (h:F5 p b=some v):(p=some (.bool true)∧b=some v)∨(p=some (.bool false)∧v= .bool false):=by
 unfold F5 at h;split at h
 ·exact .inl ⟨rfl,h⟩
 ·cases h;exact .inr ⟨rfl,rfl⟩
 ·cases h
theorem mJ {p b:Option AV} {v:AV} (h:P0 p b=some v):(p=some (.bool false)∧b=some v)∨(p=some (.bool true)∧v= .bool true):=by
 unfold P0 at h;split at h
 ·cases h;exact .inr ⟨rfl,rfl⟩
 ·exact .inl ⟨rfl,h⟩
 ·cases h
section
variable {c:ax} {env:List (Option AV)}
theorem u7 {bs bs':List ad}: ∀{e:E},e.reads=false→bB c env bs e=bB c env bs' e:=by
 intro e
 induction e <;> intro h <;> simp only [E.reads,Bool.or_eq_false_iff,Bool.true_eq_false] at h <;> simp only [bB]
 case bin ih1 ih2=>rw [ih1 h.1,ih2 h.2]
 case un ih=>rw [ih h]
 case pick ih1 ih2 ih3=>rw [ih1 h.1.1,ih2 h.1.2,ih3 h.2]
 case guard ih1 ih2=>rw [ih1 h.1,ih2 h.2]
 case and ih1 ih2=>rw [ih1 h.1,ih2 h.2]
 case or ih1 ih2=>rw [ih1 h.1,ih2 h.2]
 case index ih1 ih2=>rw [ih1 h.1,ih2 h.2]
 case field ih=>rw [ih h]
 case extract ih=>rw [ih h]
 case toInt ih=>rw [ih h]
 case lenS ih=>rw [ih h]
 case slA ih=>rw [ih h]
 case slL ih1 ih2=>rw [ih1 h.1,ih2 h.2]
 case slH ih1 ih2=>rw [ih1 h.1,ih2 h.2]
 case slB ih1 ih2 ih3=>rw [ih1 h.1.1,ih2 h.1.2,ih3 h.2]
 case nilck ih=>rw [ih h]
theorem y9 {bs:List ad} {k:Nat} {x:Option AV}: ∀{e:E},e.looks k=false→bB c (env.set k x) bs e=bB c env bs e:=by
 intro e
 induction e <;> intro h <;> simp only [E.looks,Bool.or_eq_false_iff,beq_eq_false_iff_ne,ne_eq] at h <;> simp only [bB]
 case var i=>simp only [kL,List.getD_eq_getElem?_getD,List.getElem?_set_ne h]
 case bin ih1 ih2=>rw [ih1 h.1,ih2 h.2]
 case un ih=>rw [ih h]
 case pick ih1 ih2 ih3=>rw [ih1 h.1.1,ih2 h.1.2,ih3 h.2]
 case guard ih1 ih2=>rw [ih1 h.1,ih2 h.2]
 case and ih1 ih2=>rw [ih1 h.1,ih2 h.2]
 case or ih1 ih2=>rw [ih1 h.1,ih2 h.2]
 case index ih1 ih2=>rw [ih1 h.1,ih2 h.2]
 case field ih=>rw [ih h]
 case extract ih=>rw [ih h]
 case conv ih=>rw [ih h]
 case toInt ih=>rw [ih h]
 case len ih=>rw [ih h]
 case lenS ih=>rw [ih h]
 case slA ih=>rw [ih h]
 case slL ih1 ih2=>rw [ih1 h.1,ih2 h.2]
 case slH ih1 ih2=>rw [ih1 h.1,ih2 h.2]
 case slB ih1 ih2 ih3=>rw [ih1 h.1.1,ih2 h.1.2,ih3 h.2]
 case load ih=>rw [ih h]
 case faddr ih=>rw [ih h]
 case iaddr ih1 ih2=>rw [ih1 h.1,ih2 h.2]
 case nilck ih=>rw [ih h]
theorem iP {bs:List ad} {g:E} {w:Bool} (hg:bB c env bs g=some (.bool w)): ∀(e:E),bB c env bs (bt g w e)=bB c env bs e:=by
 intro e
 induction e <;> simp only [bt]
 case guard x v y ih1 ih2=>
  split
  ·rename_i h;simp only [Bool.and_eq_true,beq_iff_eq] at h;obtain ⟨h1,rfl⟩:=h;obtain rfl:=cw h1;rw [ih2];simp only [bB];rw [hg,fy]
  ·simp only [bB];rw [ih1,ih2]
 all_goals simp only [bB, *]
theorem lJ {bs:List ad} {g:E} {w:Bool} (hg:bB c env bs g=some (.bool (!w))∨ ∃l,bB c env bs g=some (.aT l)): ∀{e:E},nG g w e=true→bB c env bs e=some (.aT []):=by
 intro e
 induction e <;> intro h <;> simp only [nG,Bool.false_eq_true] at h
 case guard x v y ih1 ih2=>
  simp only [Bool.or_eq_true,Bool.and_eq_true,beq_iff_eq] at h;simp only [bB];rcases h with ⟨h1,rfl⟩ | h1
  ·obtain rfl:=cw h1;rcases hg with hg | ⟨l,hg⟩
   ·rw [hg,rM]
   ·rw [hg,lI]
  ·rw [ih1 h1,lI]
theorem Dm {bs:List ad}: ∀{F e:E},e.within F=true→(bB c env bs F).isSome=true→(bB c env bs e).isSome=true:=by
 intro F
 induction F <;> intro e h hF <;> simp only [E.within,Bool.or_eq_true,Bool.and_eq_true] at h
 case var=>rw [cw h];exact hF
 case cst=>rw [cw h];exact hF
 case guard g w x ih1 ih2=>
  rcases h with (h | h) | ⟨h1,h2⟩
  ·rw [cw h];exact hF
  ·obtain ⟨v,hv⟩:=Option.isSome_iff_exists.1 hF;refine ih1 h ?_;simp only [bB] at hv;rcases gR hv with ⟨h1,h2⟩ | ⟨h1,rfl⟩ | ⟨⟨l,h1⟩,rfl⟩ <;> rw [h1] <;> rfl
  ·obtain ⟨v,hv⟩:=Option.isSome_iff_exists.1 hF;simp only [bB] at hv;rcases gR hv with ⟨h3,h4⟩ | ⟨h3,rfl⟩ | ⟨h3,rfl⟩
   ·rw [←iP h3];exact ih2 h2 (by rw [h4];rfl)
   ·rw [lJ (.inl h3) h1];rfl
   ·rw [lJ (.inr h3) h1];rfl
 case and g x ih1 ih2=>
  rcases h with (h | h) | ⟨h1,h2⟩
  ·rw [cw h];exact hF
  ·obtain ⟨v,hv⟩:=Option.isSome_iff_exists.1 hF;refine ih1 h ?_;simp only [bB] at hv;rcases kN hv with ⟨h1,h2⟩ | ⟨h1,rfl⟩ <;> rw [h1] <;> rfl
  ·obtain ⟨v,hv⟩:=Option.isSome_iff_exists.1 hF;simp only [bB] at hv;rcases kN hv with ⟨h3,h4⟩ | ⟨h3,rfl⟩
   ·rw [←iP h3];exact ih2 h2 (by rw [h4];rfl)
   ·rw [lJ (.inl h3) h1];rfl
 case or g x ih1 ih2=>
  rcases h with (h | h) | ⟨h1,h2⟩
  ·rw [cw h];exact hF
  ·obtain ⟨v,hv⟩:=Option.isSome_iff_exists.1 hF;refine ih1 h ?_;simp only [bB] at hv;rcases mJ hv with ⟨h1,h2⟩ | ⟨h1,rfl⟩ <;> rw [h1] <;> rfl
  ·obtain ⟨v,hv⟩:=Option.isSome_iff_exists.1 hF;simp only [bB] at hv;rcases mJ hv with ⟨h3,h4⟩ | ⟨h3,rfl⟩
   ·rw [←iP h3];exact ih2 h2 (by rw [h4];rfl)
   ·rw [lJ (.inl h3) h1];rfl
 case pick p x y ih1 ih2 ih3=>
  obtain ⟨v,hv⟩:=Option.isSome_iff_exists.1 hF;simp only [bB] at hv;obtain ⟨a,b,d,h1,h2,h3,h4⟩:=mI hv;rcases h with ((h | h) | h) | h
  ·rw [cw h];exact hF
  ·exact ih1 h (by rw [h1];rfl)
  ·exact ih2 h (by rw [h2];rfl)
  ·exact ih3 h (by rw [h3];rfl)
 case slB p x y ih1 ih2 ih3=>
  obtain ⟨v,hv⟩:=Option.isSome_iff_exists.1 hF;simp only [bB] at hv;obtain ⟨a,b,d,h1,h2,h3,h4⟩:=mI hv;rcases h with ((h | h) | h) | h
  ·rw [cw h];exact hF
  ·exact ih1 h (by rw [h1];rfl)
  ·exact ih2 h (by rw [h2];rfl)
  ·exact ih3 h (by rw [h3];rfl)
 case bin ih1 ih2=>
  obtain ⟨v,hv⟩:=Option.isSome_iff_exists.1 hF;simp only [bB] at hv;obtain ⟨a,b,h1,h2,h3⟩:=eO hv;rcases h with (h | h) | h
  ·rw [cw h];exact hF
  ·exact ih1 h (by rw [h1];rfl)
  ·exact ih2 h (by rw [h2];rfl)
 case index ih1 ih2=>
  obtain ⟨v,hv⟩:=Option.isSome_iff_exists.1 hF;simp only [bB] at hv;obtain ⟨a,b,h1,h2,h3⟩:=eO hv;rcases h with (h | h) | h
  ·rw [cw h];exact hF
  ·exact ih1 h (by rw [h1];rfl)
  ·exact ih2 h (by rw [h2];rfl)
 case slL ih1 ih2=>
  obtain ⟨v,hv⟩:=Option.isSome_iff_exists.1 hF;simp only [bB] at hv;obtain ⟨a,b,h1,h2,h3⟩:=eO hv;rcases h with (h | h) | h
  ·rw [cw h];exact hF
  ·exact ih1 h (by rw [h1];rfl)
  ·exact ih2 h (by rw [h2];rfl)
 case slH ih1 ih2=>
  obtain ⟨v,hv⟩:=Option.isSome_iff_exists.1 hF;simp only [bB] at hv;obtain ⟨a,b,h1,h2,h3⟩:=eO hv;rcases h with (h | h) | h
  ·rw [cw h];exact hF
  ·exact ih1 h (by rw [h1];rfl)
  ·exact ih2 h (by rw [h2];rfl)
 case iaddr ih1 ih2=>
  obtain ⟨v,hv⟩:=Option.isSome_iff_exists.1 hF;simp only [bB] at hv;obtain ⟨a,b,h1,h2,h3⟩:=eO hv;rcases h with (h | h) | h
  ·rw [cw h];exact hF
  ·exact ih1 h (by rw [h1];rfl)
  ·exact ih2 h (by rw [h2];rfl)
 all_goals
  rename_i ih;obtain ⟨v,hv⟩:=Option.isSome_iff_exists.1 hF;simp only [bB] at hv;obtain ⟨a,h1,h2⟩:=dM hv;rcases h with h | h
  ·rw [cw h];exact hF
  ·exact ih h (by rw [h1];rfl)
theorem EY {bs:List ad} {bad:E→Bool}: ∀{F e:E},e∈dB bad F→(bB c env bs F).isSome=true→(bB c env bs e).isSome=true:=by
 have grd: ∀{g x e:E} {w:Bool} {v:AV},e∈(dB bad x).map (.guard g w)→(∀{e},e∈dB bad x→(bB c env bs x).isSome=true→(bB c env bs e).isSome=true)→lE (bB c env bs g) w (bB c env bs x)=some v→(bB c env bs e).isSome=true:=by
  intro g x e w v he ih hv;obtain ⟨y,hy,rfl⟩:=List.mem_map.1 he;simp only [bB];rcases gR hv with ⟨h1,h2⟩ | ⟨h1,rfl⟩ | ⟨⟨l,h1⟩,rfl⟩
  ·rw [h1,fy];exact ih hy (by rw [h2];rfl)
  ·rw [h1,rM];rfl
  ·rw [h1,lI];rfl
 intro F
 induction F <;> intro e h hF <;> simp only [dB] at h
 case guard g w x ih1 ih2=>
  split at h
  case h_2=>simp only [List.mem_cons,List.not_mem_nil,or_false] at h;rw [h];exact hF
  obtain ⟨v,hv⟩:=Option.isSome_iff_exists.1 hF;simp only [bB] at hv;rw [List.mem_append] at h;rcases h with h | h
  ·refine ih1 h ?_;rcases gR hv with ⟨h1,h2⟩ | ⟨h1,rfl⟩ | ⟨⟨l,h1⟩,rfl⟩ <;> rw [h1] <;> rfl
  ·split at h
   ·cases h
   ·exact grd h ih2 hv
 case and g x ih1 ih2=>
  split at h
  case h_2=>simp only [List.mem_cons,List.not_mem_nil,or_false] at h;rw [h];exact hF
  obtain ⟨v,hv⟩:=Option.isSome_iff_exists.1 hF;simp only [bB] at hv;rw [List.mem_append] at h;rcases h with h | h
  ·refine ih1 h ?_;rcases kN hv with ⟨h1,h2⟩ | ⟨h1,rfl⟩ <;> rw [h1] <;> rfl
  ·split at h
   ·cases h
   ·rcases kN hv with ⟨h1,h2⟩ | ⟨h1,rfl⟩
    ·exact grd (v:=v) h ih2 (by rw [h1,fy];exact h2)
    ·exact grd (v:= .aT []) h ih2 (by rw [h1];rfl)
 case or g x ih1 ih2=>
  split at h
  case h_2=>simp only [List.mem_cons,List.not_mem_nil,or_false] at h;rw [h];exact hF
  obtain ⟨v,hv⟩:=Option.isSome_iff_exists.1 hF;simp only [bB] at hv;rw [List.mem_append] at h;rcases h with h | h
  ·refine ih1 h ?_;rcases mJ hv with ⟨h1,h2⟩ | ⟨h1,rfl⟩ <;> rw [h1] <;> rfl
  ·split at h
   ·cases h
   ·rcases mJ hv with ⟨h1,h2⟩ | ⟨h1,rfl⟩
    ·exact grd (v:=v) h ih2 (by rw [h1,fy];exact h2)
    ·exact grd (v:= .aT []) h ih2 (by rw [h1];rfl)
 all_goals
  split at h
  case h_2=>simp only [List.mem_cons,List.not_mem_nil,or_false] at h;rw [h];exact hF
  obtain ⟨v,hv⟩:=Option.isSome_iff_exists.1 hF;simp only [bB] at hv
  first
   | (simp only [List.not_mem_nil] at h;done)
   | (obtain ⟨a, b, d, h1, h2, h3, h4⟩ := mI hv
      rename_i ih1 ih2 ih3 _ _;simp only [List.mem_append] at h;rcases h with h | h | h
      ·exact ih1 h (by rw [h1]; rfl)
      ·exact ih2 h (by rw [h2]; rfl)
      ·exact ih3 h (by rw [h3]; rfl))
   | (obtain ⟨a, b, h1, h2, h3⟩ := eO hv
      rename_i ih1 ih2 _ _;simp only [List.mem_append] at h;rcases h with h | h
      ·exact ih1 h (by rw [h1]; rfl)
      ·exact ih2 h (by rw [h2]; rfl))
   | (obtain ⟨a, h1, h2⟩ := dM hv
      rename_i ih _ _;exact ih h (by rw [h1]; rfl))
theorem xD {bad:E→Bool} (hb: ∀g w x,bad (.guard g w x)=(bad g || bad x)): ∀{F e:E},e∈dB bad F→bad e=false:=by
 have grd: ∀{g x e:E} {w:Bool},e∈(match bad g with | true=> [] | false=>(dB bad x).map (E.guard g w))→(∀{e},e∈dB bad x→bad e=false)→bad e=false:=by
  intro g x e w he ih;split at he
  ·cases he
  ·rename_i hg;obtain ⟨y,hy,rfl⟩:=List.mem_map.1 he;rw [hb,hg,ih hy];rfl
 intro F
 induction F <;> intro e h <;> simp only [dB] at h
 case guard g w x ih1 ih2=>
  split at h
  case h_2=>simp only [List.mem_cons,List.not_mem_nil,or_false] at h;rw [h];assumption
  rw [List.mem_append] at h;rcases h with h | h
  ·exact ih1 h
  ·exact grd h ih2
 case and g x ih1 ih2=>
  split at h
  case h_2=>simp only [List.mem_cons,List.not_mem_nil,or_false] at h;rw [h];assumption
  rw [List.mem_append] at h;rcases h with h | h
  ·exact ih1 h
  ·exact grd h ih2
 case or g x ih1 ih2=>
  split at h
  case h_2=>simp only [List.mem_cons,List.not_mem_nil,or_false] at h;rw [h];assumption
  rw [List.mem_append] at h;rcases h with h | h
  ·exact ih1 h
  ·exact grd h ih2
 all_goals
  split at h
  case h_2=>simp only [List.mem_cons,List.not_mem_nil,or_false] at h;rw [h];assumption
  first
   | (simp only [List.not_mem_nil] at h;done)
   | (rename_i ih1 ih2 ih3 _ _
      simp only [List.mem_append] at h;rcases h with h | h | h
      ·exact ih1 h
      ·exact ih2 h
      ·exact ih3 h)
   | (rename_i ih1 ih2 _ _
      simp only [List.mem_append] at h;rcases h with h | h
      ·exact ih1 h
      ·exact ih2 h)
   | (rename_i ih _ _
      exact ih h)
end
end Go.Am
namespace Go.Am
theorem H8 (c:ax) (cf:aL) (op:Op) (t:Env) (bs:List ad) (id:Nat):bV c cf op t bs id=dL c cf op (ev t) bs id:=by
 cases op
 case call k=>
  obtain ⟨callee,args,ts⟩:=k;cases callee <;> rfl
 all_goals rfl
theorem lK {φ ψ:Operand→AV} {l:List Operand} (h: ∀x∈l,φ x=ψ x):l.map φ=l.map ψ:=List.map_congr_left h
theorem ql {φ ψ:Operand→AV} {l:List (Nat×Operand)} (h: ∀x∈l.map (·.2),φ x=ψ x):(l.map fun p=>(p.1,φ p.2))=l.map fun p=>(p.1,ψ p.2):=
 List.map_congr_left fun p hp=>by rw [h p.2 (List.mem_map_of_mem hp)]
theorem pf {φ ψ:Operand→AV} {x:Option Operand} (h: ∀y∈x.toArray,φ y=ψ y):x.map φ=x.map ψ:=by
 cases x with
 | none=>rfl
 | some x=>simp only [Option.map_some];rw [h x (by simp)]
theorem pg (c:ax) {op:Op} {φ ψ:Operand→AV} (h: ∀x∈op.operands,φ x=ψ x) (bs:List ad) (id:Nat):cS c op φ bs id=cS c op ψ bs id:=by
 cases op <;> simp only [Op.operands] at h
 case move x=>simp only [cS];rw [h x (by simp)]
 case assign x=>simp only [cS];rw [h x (by simp)]
 case pick x y z=>simp only [cS];rw [h x (by simp),h y (by simp),h z (by simp)]
 case box e x=>simp only [cS];rw [h x (by simp)]
 case build ty ps=>simp only [cS];rw [ql (fun x hx=>h x (by simpa using hx))]
 case buildSlice ty n ps=>simp only [cS];rw [ql (fun x hx=>h x (by simpa using hx))]
 case load ty x=>simp only [cS];rw [h x (by simp)]
 case store ty x y=>simp only [cS];rw [h x (by simp),h y (by simp)]
 case nilCheck x=>simp only [cS];rw [h x (by simp)]
 case makeInterface ty x=>simp only [cS];rw [h x (by simp)]
 case binOp o ty x y ty'=>simp only [cS];rw [h x (by simp),h y (by simp)]
 case unOp o ty x=>simp only [cS];rw [h x (by simp)]
 case convert s d x=>simp only [cS];rw [h x (by simp)]
 case makeFunc fn first caps=>
  cases fn <;> first
   | rfl
   | (simp only [cS];rw [lK (fun x hx=>h x (by simp at hx⊢;exact .inl hx)),lK (fun x hx=>h x (by simp at hx⊢;exact .inr hx))])
 case makeSlice ty x y=>simp only [cS];rw [h x (by simp),h y (by simp)]
 case slice ty x lo hi mx=>
  have h1:=pf (x:=lo) (fun y hy=>h y (by simp only [Array.mem_append];exact .inl (.inl (.inr hy))));have h2:=pf (x:=hi) (fun y hy=>h y (by simp only [Array.mem_append];exact .inl (.inr hy)));simp only [cS];rw [h x (by simp),h1,h2];cases mx with
  | none=>rfl
  | some m=>simp only;rw [h m (by simp)]
 case fieldAddr ty x f=>simp only [cS];rw [h x (by simp)]
 case field ty x f=>simp only [cS];rw [h x (by simp)]
 case indexAddr ty x y=>simp only [cS];rw [h x (by simp),h y (by simp)]
 case index ty x y=>simp only [cS];rw [h x (by simp),h y (by simp)]
 case extract x i=>simp only [cS];rw [h x (by simp)]
 case makeMap ty r=>simp only [cS];rw [pf h]
 case range ty x=>simp only [cS];rw [h x (by simp)]
 case next x str=>simp only [cS];rw [h x (by simp)]
 case lookup ty x k ok=>simp only [cS];rw [h x (by simp),h k (by simp)]
 case mapUpdate ty m k x=>simp only [cS];rw [h m (by simp),h k (by simp),h x (by simp)]
 case insert ty m k x=>simp only [cS];rw [h m (by simp),h k (by simp),h x (by simp)]
 case mapEntry ty m k=>simp only [cS];rw [h m (by simp),h k (by simp)]
 case entryStore ty m s x=>simp only [cS];rw [h m (by simp),h s (by simp),h x (by simp)]
 case entry x=>simp only [cS];rw [h x (by simp)]
 case call k=>
  obtain ⟨callee,args,ts⟩:=k;simp only [cS];rw [lK (fun x hx=>h x (by simp only [Call.operands,Array.mem_append];exact .inr (by simpa using hx)))]
 all_goals rfl
theorem A7 (c:ax) (cf:aL) {op:Op} {φ ψ:Operand→AV} (h: ∀x∈op.operands,φ x=ψ x) (bs:List ad) (id:Nat):dL c cf op φ bs id=dL c cf op ψ bs id:=by
 unfold dL;split
 ·rename_i k;obtain ⟨callee,args,ts⟩:=k;simp only;cases callee with
  | value f=>simp only;rw [h f (by simp [Op.operands,Call.operands]),lK (fun x hx=>h x (by simp only [Op.operands,Call.operands,Array.mem_append];exact .inr (by simpa using hx)))]
  | invoke r m=>exact pg c h bs id
  | builtin b=>exact pg c h bs id
 ·exact pg c h bs id
theorem dm {x:Option E} {f:E→E} {e:E} (h:gQ x f=some e): ∃a,x=some a∧e=f a:=by
 unfold gQ at h;cases x with
 | none=>cases h
 | some a=>cases h;exact ⟨a,rfl,rfl⟩
theorem ji {x y:Option E} {f:E→E→E} {e:E} (h:qi x y f=some e): ∃a b,x=some a∧y=some b∧e=f a b:=by
 unfold qi at h;split at h
 ·cases h;exact ⟨_,_,rfl,rfl,rfl⟩
 ·cases h
theorem u9 {x y z:Option E} {f:E→E→E→E} {e:E} (h:AW x y z f=some e): ∃a b d,x=some a∧y=some b∧z=some d∧e=f a b d:=by
 unfold AW at h;split at h
 ·cases h;exact ⟨_,_,_,rfl,rfl,rfl,rfl⟩
 ·cases h
theorem Dn {c:ax} {env:List (Option AV)} {bs:List ad} {p a b:E} {v:AV} (h:bB c env bs (Dj p a b)=some v):bB c env bs (.pick p a b)=some v:=by
 unfold Dj at h;split at h
 ·split at h
  ·rename_i hs;obtain rfl:=cw hs;simp only [bB] at h⊢;rcases kN h with ⟨h1,h2⟩ | ⟨h1,rfl⟩
   ·rw [h1,fy,h2];rfl
   ·rw [h1];rfl
  ·exact h
 ·split at h
  ·rename_i hs;obtain rfl:=cw hs;simp only [bB] at h⊢;rcases mJ h with ⟨h1,h2⟩ | ⟨h1,rfl⟩
   ·rw [h1,fy,h2];rfl
   ·rw [h1];rfl
  ·exact h
 ·exact h
theorem Dp {c:ax} {s d:Option TI} {x r:AV} {bs:List ad} {i j:Nat} (h:dI c s d x bs i=some (r,.none)):dI c s d x bs j=some (r,.none):=by
 unfold dI at h⊢
 repeat' (first | exact h | (split at h <;> try (cases h;done)))
 all_goals first
  | exact h
  | (simp_all;done)
theorem Kt {c:ax} {cf:aL} {env:List (Option AV)} {bs:List ad} {ρ:Operand→Option E} {φ:Operand→AV} (hρ: ∀x e v,ρ x=some e→bB c env bs e=some v→φ x=v) {op:Op} {e:E} {v:AV}
  (h:mF c ρ op=some e) (hv:bB c env bs e=some v) (id:Nat):dL c cf op φ bs id=some (v,.none):=by
 unfold mF at h;split at h
 ·simp only [dL,cS];rw [hρ _ _ _ h hv]
 ·simp only [dL,cS];rw [hρ _ _ _ h hv]
 ·obtain ⟨a,b,d,h1,h2,h3,rfl⟩:=u9 h;have hv:=Dn hv;simp only [bB] at hv;obtain ⟨x,y,z,k1,k2,k3,k4⟩:=mI hv;simp only [dL,cS];rw [hρ _ _ _ h1 k1,hρ _ _ _ h2 k2,hρ _ _ _ h3 k3];exact ew k4
 ·split at h
  ·cases h
  rename_i hq;obtain ⟨a,b,h1,h2,rfl⟩:=ji h;simp only [bB] at hv;obtain ⟨x,y,k1,k2,k3⟩:=eO hv;simp only [dL,cS,FK,hq];rw [hρ _ _ _ h1 k1,hρ _ _ _ h2 k2,k3];rfl
 ·obtain ⟨a,h1,rfl⟩:=dm h;simp only [bB] at hv;obtain ⟨x,k1,k2⟩:=dM hv;simp only [dL,cS];rw [hρ _ _ _ h1 k1,k2];rfl
 ·obtain ⟨a,b,h1,h2,rfl⟩:=ji h;simp only [bB] at hv;obtain ⟨x,y,k1,k2,k3⟩:=eO hv;simp only [dL,cS];rw [hρ _ _ _ h1 k1,hρ _ _ _ h2 k2];exact ew k3
 ·obtain ⟨a,h1,rfl⟩:=dm h;simp only [bB] at hv;obtain ⟨x,k1,k2⟩:=dM hv;simp only [dL,cS];rw [hρ _ _ _ h1 k1];exact ew k2
 ·obtain ⟨a,h1,rfl⟩:=dm h;simp only [bB] at hv;obtain ⟨x,k1,k2⟩:=dM hv;simp only [dL,cS];rw [hρ _ _ _ h1 k1];exact ew k2
 ·-- convert
  simp only [dL,cS];split at h
  ·rename_i hs hd;obtain ⟨a,h1,rfl⟩:=dm h;simp only [bB] at hv;obtain ⟨x,k1,k2⟩:=dM hv;rw [hρ _ _ _ h1 k1];simp only [ax.descOf,Option.map_eq_some_iff] at hs hd;obtain ⟨i,hi,hi2⟩:=hs;obtain ⟨j,hj,hj2⟩:=hd;unfold Dh at k2;split at k2
   ·cases k2;simp only [hi,hj,dI,hj2]
   ·cases k2
  ·cases h
  ·obtain ⟨a,h1,rfl⟩:=dm h;simp only [bB] at hv;obtain ⟨x,k1,k2⟩:=dM hv;rw [hρ _ _ _ h1 k1];exact Dp (ew k2)
 ·obtain ⟨a,h1,rfl⟩:=dm h;simp only [bB] at hv;obtain ⟨x,k1,k2⟩:=dM hv;simp only [dL,cS];rw [hρ _ _ _ h1 k1];exact ew k2
 ·obtain ⟨a,h1,rfl⟩:=dm h;simp only [bB] at hv;obtain ⟨x,k1,k2⟩:=dM hv;simp only [dL,cS];rw [hρ _ _ _ h1 k1];exact ew k2
 ·obtain ⟨a,b,h1,h2,rfl⟩:=ji h;simp only [bB] at hv;obtain ⟨x,y,k1,k2,k3⟩:=eO hv;simp only [dL,cS];rw [hρ _ _ _ h1 k1,hρ _ _ _ h2 k2];exact ew k3
 ·obtain ⟨a,h1,rfl⟩:=dm h;simp only [bB] at hv;obtain ⟨x,k1,k2⟩:=dM hv;simp only [dL,cS];rw [hρ _ _ _ h1 k1];exact ew k2
 ·-- slice
  have sl: ∀{x r:AV} {lo hi:Option AV},o9 x lo hi=some r→dz c .string x lo hi bs=some (r,.none):=by
   intro x r lo hi h;unfold o9 at h;split at h
   ·simp only [dz];split at h
    ·rename_i hh;rw [hh];simp only;split at h
     ·rename_i hl;rw [hl];cases h;rfl
     ·cases h
    ·cases h
   ·cases h
  split at h
  ·rename_i hd;simp only [ax.descOf,Option.map_eq_some_iff] at hd;obtain ⟨j,hj,hj2⟩:=hd;simp only [dL,cS,hj,hj2];split at h
   ·obtain ⟨a,h1,rfl⟩:=dm h;simp only [bB] at hv;obtain ⟨x,k1,k2⟩:=dM hv;rw [hρ _ _ _ h1 k1];exact sl k2
   ·obtain ⟨a,b,h1,h2,rfl⟩:=ji h;simp only [bB] at hv;obtain ⟨x,y,k1,k2,k3⟩:=eO hv;simp only [Option.map_some,Option.map_none];rw [hρ _ _ _ h1 k1,hρ _ _ _ h2 k2];exact sl k3
   ·obtain ⟨a,b,h1,h2,rfl⟩:=ji h;simp only [bB] at hv;obtain ⟨x,y,k1,k2,k3⟩:=eO hv;simp only [Option.map_some,Option.map_none];rw [hρ _ _ _ h1 k1,hρ _ _ _ h2 k2];exact sl k3
   ·obtain ⟨a,b,d,h1,h2,h3,rfl⟩:=u9 h;simp only [bB] at hv;obtain ⟨x,y,z,k1,k2,k3,k4⟩:=mI hv;simp only [Option.map_some];rw [hρ _ _ _ h1 k1,hρ _ _ _ h2 k2,hρ _ _ _ h3 k3];exact sl k4
  ·cases h
 ·-- len
  rename_i k;obtain ⟨callee,args,ts⟩:=k;simp only at h;split at h
  ·rename_i hts hargs;simp only [dL,cS];rw [hts,hargs];simp only [List.map_cons,List.map_nil,er];split at h
   ·rename_i hd;simp only [ax.descOf,Option.map_eq_some_iff] at hd;obtain ⟨j,hj,hj2⟩:=hd;obtain ⟨a,h1,rfl⟩:=dm h;simp only [bB] at hv;obtain ⟨x,k1,k2⟩:=dM hv;rw [hρ _ _ _ h1 k1];unfold H0 at k2;split at k2
    ·cases k2;simp only [hj,hj2,oU]
    ·cases k2
   ·obtain ⟨a,h1,rfl⟩:=dm h;simp only [bB] at hv;obtain ⟨x,k1,k2⟩:=dM hv;rw [hρ _ _ _ h1 k1];have:=ew k2;unfold NN at this;exact this
  ·cases h
 ·cases h
end Go.Am
namespace Go.Am
section
variable {c:ax} {cf:aL} {base:Nat} {kl:List Nat}
abbrev seen (base:Nat) (kl:List Nat) (bs:List ad):List ad:=aY (kl.map (base+ ·)) bs
theorem mK {env:List (Option AV)} {bs:List ad}: ∀{l:List (Nat×E)} {vs:List (Nat×AV)},og c env bs l=some vs→ ∀i e,(i,e)∈l→ ∃v,bB c env bs e=some v∧(i,v)∈vs
 | [],vs,h,i,e,hm=>by cases hm
 | (j,f)::r,vs,h,i,e,hm=>by
  simp only [og] at h;split at h
  ·rename_i v hv;split at h
   ·rename_i l hl;cases h;rcases List.mem_cons.1 hm with h1 | h1
    ·cases h1;exact ⟨v,hv,List.mem_cons_self⟩
    ·obtain ⟨u,h2,h3⟩:=mK hl i e h1;exact ⟨u,h2,List.mem_cons_of_mem _ h3⟩
   ·cases h
  ·cases h
theorem kO {env:List (Option AV)} {bs:List ad}: ∀{l:List (Nat×E)} {vs:List (Nat×AV)},og c env bs l=some vs→vs.map (·.1)=l.map (·.1)
 | [],vs,h=>by cases h;rfl
 | (j,f)::r,vs,h=>by
  simp only [og] at h;split at h
  ·split at h
   ·rename_i l hl;cases h;simp only [List.map_cons,kO hl]
   ·cases h
  ·cases h
theorem ke: ∀(vs:List (Nat×AV)) (env:List (Option AV)),(dv env vs).length=env.length
 | [],_=>rfl
 | (i,v)::r,env=>by simp only [dv];rw [ke r];simp
theorem kf {k:Nat}: ∀(vs:List (Nat×AV)) (env:List (Option AV)),(∀p∈vs,p.1≠k)→(dv env vs).getD k none=env.getD k none
 | [],_,_=>rfl
 | (i,v)::r,env,h=>by
  simp only [dv];rw [kf r _ fun p hp=>h p (List.mem_cons_of_mem _ hp)];simp only [List.getD_eq_getElem?_getD];rw [List.getElem?_set_ne (h (i,v) List.mem_cons_self)]
theorem vc {k:Nat} {v:AV}: ∀(vs:List (Nat×AV)) (env:List (Option AV)),(vs.map (·.1)).Nodup→(k,v)∈vs→k<env.length→(dv env vs).getD k none=some v
 | [],_,_,h,_=>by cases h
 | (i,u)::r,env,hn,h,hk=>by
  simp only [List.map_cons,List.nodup_cons] at hn;simp only [dv];rcases List.mem_cons.1 h with h1 | h1
  ·cases h1;rw [kf r _ fun p hp e=>hn.1 (by rw [←e];exact List.mem_map_of_mem hp)];simp [List.getD_eq_getElem?_getD,hk]
  ·exact vc r _ hn.2 h1 (by simpa using hk)
theorem ph {bs:List ad} {e:E}: ∀(vs:List (Nat×AV)) (env:List (Option AV)),(∀p∈vs,e.looks p.1=false)→bB c (dv env vs) bs e=bB c env bs e
 | [],_,_=>rfl
 | (i,v)::r,env,h=>by
  simp only [dv];rw [ph r _ fun p hp=>h p (List.mem_cons_of_mem _ hp)];exact y9 (h (i,v) List.mem_cons_self)
theorem Ku {α:Type} (l:List α) (f g:α→Bool):(l.any fun p=>f p || g p)=(l.any f || l.any g):=by
 induction l with
 | nil=>rfl
 | cons a l ih=>simp only [List.any_cons,ih];cases f a <;> cases g a <;> cases l.any f <;> rfl
theorem rN: ∀{its:List It} {env:List (Option AV)} {bs:List ad} {r:List (Option AV)×List ad},br c cf base kl its env bs=some r→ ∀e∈pd its,(bB c env (seen base kl bs) e).isSome=true
 | [],_,_,_,_,e,he=>by cases he
 | .par l::its,env,bs,r,h,e,he=>by
  simp only [br] at h;split at h
  ·rename_i vs hvs;simp only [pd,List.mem_append,List.mem_flatMap] at he;rcases he with he | ⟨f,hf,he⟩
   ·obtain ⟨⟨i,e'⟩,hp,rfl⟩:=List.mem_map.1 he;obtain ⟨v,hv,_⟩:=mK hvs i e' hp;show (bB c env (seen base kl bs) e').isSome=true;rw [hv];rfl
   ·have h1:=rN h f hf;have h2:=EY he h1;have h3:=xD (bad:=fun e=>l.any fun p=>e.looks p.1) (fun g w x=>by simp only [E.looks];exact Ku l _ _) he;rw [ph vs env (fun p hp=> ?_)] at h2
    ·exact h2
    ·have:p.1∈l.map (·.1):=by rw [←kO hvs];exact List.mem_map_of_mem hp
     obtain ⟨q,hq,hqp⟩:=List.mem_map.1 this;rw [List.any_eq_false] at h3;have:=h3 q hq;rw [hqp] at this;simpa using this
  ·cases h
 | .dT mask k d g o xs::its,env,bs,r,h,e,he=>by
  simp only [br] at h
  have late: ∀{v:AV} {bs':List ad},br c cf base kl its (uX env d v) bs'=some r→e∈(pd its).flatMap (dB fun e=>e.reads || uY d e)→(bB c env (seen base kl bs) e).isSome=true:=by
   intro v bs' h he;obtain ⟨f,hf,he⟩:=List.mem_flatMap.1 he;have h1:=rN h f hf;have h2:=EY he h1
   have h3:=xD (bad:=fun e=>e.reads || uY d e) (fun g w x=>by
    cases d with
    | none=>simp only [E.reads,uY,Bool.or_false]
    | some i=>simp only [E.reads,uY,E.looks];cases g.reads <;> cases x.reads <;> cases g.looks i <;> cases x.looks i <;> rfl) he
   simp only [Bool.or_eq_false_iff] at h3;rw [u7 h3.1 (bs':=seen base kl bs)] at h2;cases d with
   | none=>exact h2
   | some i=>simp only [uX] at h2;rw [y9 h3.2] at h2;exact h2
  simp only [pd,List.mem_append] at he;split at h
  ·rename_i hw;split at h
   ·rename_i vs hvs;split at h
    ·rcases he with he | he
     ·cases g with
      | none=>simp only at he;obtain ⟨⟨i,e'⟩,hp,rfl⟩:=List.mem_map.1 he;obtain ⟨v,hv,_⟩:=mK hvs i e' hp;show (bB c env (seen base kl bs) e').isSome=true;rw [hv];rfl
      | some q=>
       obtain ⟨x,w⟩:=q;simp only [sU,sT] at hw
       have hx:bB c env (seen base kl bs) x=some (.bool w):=by
        split at hw
        ·rename_i b hb;rw [hb];cases b <;> cases w <;> simp_all
        ·cases hw
        ·cases hw
       simp only [List.mem_cons] at he;rcases he with rfl | he
       ·rw [hx];rfl
       ·obtain ⟨⟨i,e'⟩,hp,rfl⟩:=List.mem_map.1 he;obtain ⟨v,hv,_⟩:=mK hvs i e' hp;simp only [bB];rw [hx,fy,hv];rfl
     ·exact late h he
    ·cases h
   ·cases h
  ·rename_i hw;rcases he with he | he
   ·cases g with
    | none=>simp [sU] at hw
    | some q=>
     obtain ⟨x,w⟩:=q;simp only [sU,sT] at hw
     have hx:bB c env (seen base kl bs) x=some (.bool (!w))∨ ∃l,bB c env (seen base kl bs) x=some (.aT l):=by
      split at hw
      ·rename_i b hb;left;rw [hb];cases b <;> cases w <;> simp_all
      ·rename_i l hb;right;exact ⟨l,hb⟩
      ·cases hw
     simp only [List.mem_cons] at he;rcases he with rfl | he
     ·rcases hx with hx | ⟨l,hx⟩ <;> rw [hx] <;> rfl
     ·obtain ⟨⟨i,e'⟩,hp,rfl⟩:=List.mem_map.1 he;simp only [bB];rcases hx with hx | ⟨l,hx⟩
      ·rw [hx,rM];rfl
      ·rw [hx,lI];rfl
   ·exact late h he
  ·cases h
theorem kP {i:Nat} {e:E}: ∀{σ:List (Nat×E)},du σ i=some e→(i,e)∈σ
 | [],h=>by cases h
 | (j,f)::r,h=>by
  simp only [du] at h;split at h
  ·rename_i hij;cases h;subst hij;exact List.mem_cons_self
  ·exact List.mem_cons_of_mem _ (kP h)
theorem pj {i:Nat} {e:E}: ∀{σ:List (Nat×E)},(i,e)∈σ→ ∃f,du σ i=some f
 | [],h=>by cases h
 | (j,f)::r,h=>by
  simp only [du];split
  ·exact ⟨f,rfl⟩
  ·rename_i hij;rcases List.mem_cons.1 h with h1 | h1
   ·cases h1;exact absurd rfl hij
   ·exact pj h1
def kg (σ:List (Nat×E)):Prop:= ∀i e,(i,e)∈σ→du σ i=some e
theorem kg.filter {σ:List (Nat×E)} (h:kg σ) (p:Nat×E→Bool):kg (σ.filter p):=fun i e he=>by
 obtain ⟨f,hf⟩:=pj he;have h1:=h i e (List.mem_filter.1 he).1;have h2:=h i f (List.mem_filter.1 (kP hf)).1;rw [h1] at h2;cases h2;exact hf
theorem kg.look {σ:List (Nat×E)} (h:kg σ) {p:Nat×E→Bool} {i:Nat} {e:E} (hl:du (σ.filter p) i=some e):du σ i=some e∧p (i,e)=true:=
 ⟨h i e (List.mem_filter.1 (kP hl)).1,(List.mem_filter.1 (kP hl)).2⟩
theorem kg.cons {σ:List (Nat×E)} (h:kg σ) (d:Nat) (e:E):kg ((d,e)::σ.filter fun p=>p.1 !=d):=fun i f hf=>by
 simp only [du];rcases List.mem_cons.1 hf with h1 | h1
 ·cases h1;rw [if_pos rfl]
 ·have:=(List.mem_filter.1 h1).2;simp only [bne_iff_ne] at this;rw [if_neg this];exact h.filter _ i f h1
theorem rO: ∀{keep:List Nat} {i j k:Nat},posOf keep i=some k→posOf keep j=some k→i=j
 | [],_,_,_,h,_=>by cases h
 | x::r,i,j,k,h1,h2=>by
  simp only [posOf] at h1 h2;split at h1 <;> split at h2
  ·subst_vars;rfl
  ·cases h1;cases hp:posOf r j <;> rw [hp] at h2 <;> cases h2
  ·cases h2;cases hp:posOf r i <;> rw [hp] at h1 <;> cases h1
  ·cases hi:posOf r i with
   | none=>rw [hi] at h1;cases h1
   | some a=>cases hj:posOf r j with
    | none=>rw [hj] at h2;cases h2
    | some b=>rw [hi] at h1;rw [hj] at h2;simp only [Option.map_some,Option.some.injEq] at h1 h2;exact rO hi (by rw [hj];congr 1;omega)
theorem de: ∀{keep:List Nat} {i k:Nat},posOf keep i=some k→keep[k]?=some i
 | [],_,_,h=>by cases h
 | x::r,i,k,h=>by
  simp only [posOf] at h;split at h
  ·cases h;subst_vars;rfl
  ·cases hi:posOf r i with
   | none=>rw [hi] at h;cases h
   | some a=>rw [hi] at h;cases h;simpa using de hi
theorem vd {keep:List Nat} {σ:List (Nat×E)} {i:Nat} {e:E} (he:du σ i=some e): ∀{l:List Nat} {j k0:Nat},l[j]?=some i→(k0+j,e)∈dw keep σ l k0
 | [],_,_,h=>by simp at h
 | x::r,0,k0,h=>by simp at h;subst h;simp [dw,he]
 | x::r,j+1,k0,h=>by
  have:=vd (keep:=keep) he (l:=r) (j:=j) (k0:=k0+1) (by simpa using h);rw [show k0+1+j=k0+(j+1) by omega] at this;simp only [dw];split
  ·exact List.mem_cons_of_mem _ this
  ·exact this
theorem jQ {keep:List Nat} {σ:List (Nat×E)} {k:Nat} {e:E}: ∀{l:List Nat} {k0:Nat},(k,e)∈dw keep σ l k0→ ∃j i,l[j]?=some i∧k=k0+j∧du σ i=some e
 | [],_,h=>by cases h
 | x::r,k0,h=>by
  simp only [dw] at h;split at h
  ·rename_i f hf;rcases List.mem_cons.1 h with h1 | h1
   ·cases h1;exact ⟨0,x,rfl,rfl,hf⟩
   ·obtain ⟨j,i,h2,h3,h4⟩:=jQ h1;exact ⟨j+1,i,by simpa using h2,by omega,h4⟩
  ·obtain ⟨j,i,h2,h3,h4⟩:=jQ h;exact ⟨j+1,i,by simpa using h2,by omega,h4⟩
theorem lL {keep:List Nat} {σ:List (Nat×E)}: ∀(l:List Nat) (k0:Nat),((dw keep σ l k0).map (·.1)).Nodup
 | [],_=>List.nodup_nil
 | x::r,k0=>by
  simp only [dw];split
  ·simp only [List.map_cons,List.nodup_cons];refine ⟨fun h=> ?_,lL r _⟩;obtain ⟨⟨k,e⟩,h1,h2⟩:=List.mem_map.1 h;obtain ⟨j,i,_,h4,_⟩:=jQ h1;simp only at h2;omega
  ·exact lL r _
structure ki (c:ax) (keep:List Nat) (nt:Nat) (env:List (Option AV)) (bs:List ad) (σ:List (Nat×E)) (t:Env):Prop where
 len:env.length=keep.length
 has: ∀i,i<nt→t.has i=true
 uniq:kg σ
 NQ: ∀i e v,du σ i=some e→bB c env bs e=some v→t.get .any i=v
 env: ∀i k v,du σ i=none→posOf keep i=some k→env.getD k none=some v→t.get .any i=v
variable {keep:List Nat} {nt:Nat} {env:List (Option AV)} {bs:List ad} {σ:List (Nat×E)} {t:Env}
theorem ki.res (h:ki c keep nt env bs σ t) {i:Nat} {e:E} {v:AV} (hr:yX keep σ i=some e) (hv:bB c env bs e=some v):t.get .any i=v:=by
 unfold yX at hr;split at hr
 ·rename_i f hf;cases hr;exact h.NQ i _ v hf hv
 ·rename_i hf;simp only [Option.map_eq_some_iff] at hr;obtain ⟨k,hk,rfl⟩:=hr;exact h.env i k v hf hk hv
theorem ki.yY (h:ki c keep nt env bs σ t) {x:Operand} {e:E} {v:AV} (hr:yY keep σ x=some e) (hv:bB c env bs e=some v):ev t x=v:=by
 cases x with
 | tmp i=>exact h.res hr hv
 | const u=>cases hr;cases hv;rfl
 | func f=>cases hr;cases hv;rfl
 | global g=>cases hr
theorem ki.flush (h:ki c keep nt env bs σ t) {vs:List (Nat×AV)} (hvs:og c env bs (dw keep σ keep 0)=some vs): ∀i k v,posOf keep i=some k→(dv env vs).getD k none=some v→t.get .any i=v:=by
 intro i k v hk hv;have hg:=de hk;have hlt:k<env.length:=by rw [h.len];exact (List.getElem?_eq_some_iff.1 hg).1
 cases hl:du σ i with
 | some e=>have hm:=vd (keep:=keep) hl (l:=keep) (j:=k) (k0:=0) hg;rw [Nat.zero_add] at hm;obtain ⟨u,hu,hum⟩:=mK hvs k e hm;rw [vc vs env (by rw [kO hvs];exact lL _ _) hum hlt] at hv;cases hv;exact h.NQ i e _ hl hu
 | none=>
  rw [kf vs env (fun p hp hpk=> ?_)] at hv
  ·exact h.env i k v hl hk hv
  ·have:p.1∈(dw keep σ keep 0).map (·.1):=by rw [←kO hvs];exact List.mem_map_of_mem hp
   obtain ⟨⟨k',e⟩,h1,h2⟩:=List.mem_map.1 this;obtain ⟨j,i',h3,h4,h5⟩:=jQ h1;simp only at h2;have:j=k:=by omega
   subst this;rw [hg] at h3;cases h3;rw [hl] at h5;cases h5
theorem ki.Kv (h:ki c keep nt env bs σ t) {vs:List (Nat×AV)} (hvs:og c env bs (dw keep σ keep 0)=some vs):ki c keep nt (dv env vs) bs (xB keep (dw keep σ keep 0) σ) t where
 len:=by rw [ke];exact h.len
 has:=h.has
 uniq:=h.uniq.filter _
 NQ:=fun i e v hl hv=>by
  obtain ⟨h1,h2⟩:=h.uniq.look hl;simp only [Bool.and_eq_true,List.all_eq_true,Bool.not_eq_true'] at h2;rw [ph vs env (fun p hp=> ?_)] at hv
  ·exact h.NQ i e v h1 hv
  ·have:p.1∈(dw keep σ keep 0).map (·.1):=by rw [←kO hvs];exact List.mem_map_of_mem hp
   obtain ⟨q,hq,hqp⟩:=List.mem_map.1 this;rw [←hqp];exact h2.2 q hq
 env:=fun i k v _ hk hv=>h.flush hvs i k v hk hv
end
end Go.Am
namespace Go.Am
section
variable {c:ax} {cf:aL} {ops:Array Oper}
def step1 (c:ax) (cf:aL) (ops:Array Oper) (id:Nat) (o:Oper) (s:St):Option St:=
 match bL ops s.t o.guard with
 | some true=>match bV c cf o.op s.t s.b id with
  | some (v,e)=>match e.on s.b id with
   | some bs'=>some {t:=bu s.t o.dst v,b:=bs'}
   | .none=> .none
  | .none=> .none
 | some false=>some {t:=bu s.t o.dst (.aT []),b:=s.b}
 | .none=> .none
def gS (c:ax) (cf:aL) (ops:Array Oper) (dr:Bool) (base i:Nat) (o:Oper) (s:St):Option St:=
 match dr with
 | true=>bc c cf ops base i o s
 | false=>step1 c cf ops (cv ops.toList i base) o s
def za (c:ax) (cf:aL) (ops:Array Oper) (dr:Bool) (base:Nat):List Oper→Nat→St→Option St
 | [],_,s=>some s
 | o::r,i,s=>match gS c cf ops dr base i o s with
  | some s'=>za c cf ops dr base r (i+1) s'
  | .none=> .none
theorem Dq (base:Nat): ∀(l:List Oper) (i:Nat) (s:St),FP c cf ops base l i s=za c cf ops true base l i s
 | [],_,_=>rfl
 | o::r,i,s=>by
  simp only [FP,za,gS];cases bc c cf ops base i o s with
  | none=>rfl
  | some s'=>exact Dq base r _ _
theorem xE: ∀(l:List Oper) (i base:Nat) (o:Oper),l[i]?=some o→cv l (i+1) base=next (cv l i base) o.op
 | [],i,base,o,h=>by simp at h
 | p::r,0,base,o,h=>by
  simp at h;subst h;cases r <;> rfl
 | p::r,i+1,base,o,h=>by
  simp at h;simp only [cv];exact xE r i _ o h
theorem A8 (b k:Nat) (op:Op):next (b+k) op=b+next k op:=by unfold next;split <;> omega
theorem A9 (b:Nat): ∀(l:List Oper) (i k:Nat),cv l i (b+k)=b+cv l i k
 | _,0,_=>by cases ‹List Oper› <;> rfl
 | [],_+1,_=>rfl
 | o::r,i+1,k=>by simp only [cv];rw [A8];exact A9 b r i _
theorem mL (bf:List Nat) (i b:Nat): ∀(l:List Oper) (j k:Nat),cZ bf i l j (b+k)=(cZ bf i l j k).map (b+ ·)
 | [],_,_=>rfl
 | o::r,j,k=>by
  simp only [cZ];split <;> simp only [A8,mL bf i b r,List.map_cons]
theorem qm (base:Nat): ∀(l:List Oper) (i:Nat) (t:Env) (bs:List ad),(∀j,l[j]?=ops.toList[i+j]?)→oY c cf ops l (cv ops.toList i base) t bs=za c cf ops false base l i ⟨t,bs⟩
 | [],_,_,_,_=>rfl
 | o::r,i,t,bs,h=>by
  have ho:ops.toList[i]?=some o:=by have:=h 0;rw [Nat.add_zero] at this;rw [←this];rfl
  have hr: ∀j,r[j]?=ops.toList[i+1+j]?:=fun j=>by rw [show i+1+j=i+(j+1) by omega,←h (j+1)];rfl
  simp only [oY,za,gS,step1];rw [←xE _ _ _ _ ho];cases bL ops t o.guard with
  | none=>rfl
  | some b=>cases b with
   | false=>exact qm base r _ _ _ hr
   | true=>
    simp only;cases bV c cf o.op t bs (cv ops.toList i base) with
    | none=>rfl
    | some p=>
     obtain ⟨v,e⟩:=p;simp only;cases e.on bs (cv ops.toList i base) with
     | none=>rfl
     | some bs'=>exact qm base r _ _ _ hr
theorem zb {L M:List Nat} (h: ∀x∈M,x∈L) (bs:List ad):Sub (aY L bs) (aY M bs):=fun k hk=>by
 simp only [ad.at,List.getD_eq_getElem?_getD] at hk⊢;rw [bZ] at hk;rw [bZ,bZ];by_cases h1:k∈L∧k<bs.length
 ·rw [if_pos h1] at hk;simp at hk
 ·rw [if_neg h1,if_neg (fun h2=>h1 ⟨h _ h2.1,h2.2⟩)]
variable {base:Nat} {kl:List Nat} {keep:List Nat} {nt:Nat} {env:List (Option AV)} {bs:List ad} {σ:List (Nat×E)} {t:Env}
theorem ki.want (h:ki c keep nt env bs σ t) {g:Option (Nat×Bool)} {x:E} {w:Bool} (hg:guardOf ops keep σ g=some (some (x,w))) {u:AV} (hu:bB c env bs x=some u):bL ops t g=sT (some u) w:=by
 unfold guardOf at hg;split at hg
 ·cases hg
 ·split at hg
  ·cases hg
  ·rename_i d hd;split at hg
   ·rename_i e he;cases hg;simp only [bL,hd];rw [h.res he hu];simp only [sT];cases u <;> rfl
   ·cases hg
theorem xF {g:Option (Nat×Bool)} (hg:guardOf ops keep σ g=some none):bL ops t g=some true:=by
 unfold guardOf at hg;split at hg
 ·rfl
 ·split at hg
  ·cases hg
  ·split at hg <;> cases hg
theorem Kw (hs: ∀i,i<nt→t.has i=true) (d:Option Nat) (v:AV): ∀i,i<nt→(bu t d v).has i=true:=fun i hi=>by
 cases d with
 | none=>exact hs i hi
 | some j=>simp only [bu];rw [Tr.fr];exact hs i hi
theorem Kx {op:Op} {p:Nat} (h:gv op=some p):p∈op.operands.toList.filterMap H2:=by
 refine List.mem_filterMap.2 ⟨.tmp p,?_,rfl⟩;unfold gv at h;split at h
 ·rename_i q hq;cases h;unfold eV at hq;split at hq
  ·cases hq;simp [Op.operands]
  ·rename_i args ts;split at hq
   ·rename_i q2 hq2;cases hq;simp only [Op.operands,Call.operands];simp [hq2]
   ·cases hq
  ·cases hq
 ·unfold c9 at h;split at h
  ·cases h;simp [Op.operands]
  ·cases h;simp [Op.operands]
  ·cases h
theorem Ky {c:ax} {ops:Array Oper} {j:Nat} {op:Op} {t:Env} (h: ∀p q,gv op=some p→fV ops j p=some q→t.get .any p=t.get .any q):cu c ops j op t=true:=by
 unfold cu;split
 ·rfl
 ·rename_i p hp;split
  ·rfl
  ·rename_i q hq;rw [h p q hp hq];simp
theorem Ba (h:ki c keep nt env bs σ t) {j:Nat} {op:Op} (ha: ∀p,gv op=some p→ ∀e,yX keep σ p=some e→ ∃u,bB c env bs e=some u) {g:Option (E×Bool)} (hgs: ∀x,bB c env bs (eN g x)=bB c env bs x) (hr:A0 c ops keep g σ true j op=true):cu c ops j op t=true:=by
 cases hany:(uD c ops || nA ops) with
 | false=>rw [Bool.or_eq_false_iff] at hany;exact HT hany.1 hany.2
 | true=>
  refine Ky fun p q hp hq=> ?_;unfold A0 at hr;rw [hp,hany] at hr;simp only [Bool.and_self,hq] at hr;split at hr
  ·rename_i a b ha' hb;have hab:=cw hr;obtain ⟨u,hu⟩:=ha p hp a ha';rw [h.res ha' hu,h.res hb (by rw [←hgs b,←hab,hgs a];exact hu)]
  ·cases hr
theorem Bb (h:ki c keep nt env bs σ t) {g:Option (E×Bool)} {j:Nat} {op:Op} {e:E} {v:AV} (hp:mF c (fun x=>(yY keep σ x).map (eN g)) op=some e) (hgs: ∀x,bB c env bs (eN g x)=bB c env bs x) (hv:bB c env bs e=some v) (hr:A0 c ops keep g σ true j op=true):cu c ops j op t=true:=by
 refine Ba h (fun p hpk a ha=> ?_) hgs hr
 have one: ∀x,((yY keep σ (.tmp p)).map (eN g))=some x→(∃u,bB c env bs x=some u)→ ∃u,bB c env bs a=some u:=fun x hx ⟨u,hu⟩=>by
  simp only [yY,ha,Option.map_some,Option.some.injEq] at hx;subst hx;exact ⟨u,by rw [←hgs];exact hu⟩
 unfold gv at hpk;split at hpk
 ·rename_i p' hpk';cases hpk;unfold eV at hpk';split at hpk'
  ·cases hpk';simp only [mF,gQ,Option.map_eq_some_iff] at hp;obtain ⟨x,hx,rfl⟩:=hp;refine one x (by simpa using hx) ?_;simp only [bB] at hv;cases hx2:bB c env bs x with
   | none=>rw [hx2] at hv;cases hv
   | some u=>exact ⟨u,rfl⟩
  ·rename_i args ts;split at hpk'
   ·rename_i p' hargs;cases hpk';simp only [mF,hargs] at hp;split at hp
    ·rename_i x _ _ hxx;simp only [List.cons.injEq,and_true] at hxx;subst hxx;split at hp
     ·simp only [gQ,Option.map_eq_some_iff] at hp;obtain ⟨x,hx,rfl⟩:=hp;refine one x (by simpa using hx) ?_;simp only [bB] at hv;cases hx2:bB c env bs x with
      | none=>rw [hx2] at hv;cases hv
      | some u=>exact ⟨u,rfl⟩
     ·simp only [gQ,Option.map_eq_some_iff] at hp;obtain ⟨x,hx,rfl⟩:=hp;refine one x (by simpa using hx) ?_;simp only [bB] at hv;cases hx2:bB c env bs x with
      | none=>rw [hx2] at hv;cases hv
      | some u=>exact ⟨u,rfl⟩
    ·cases hp
   ·cases hpk'
  ·cases hpk'
 ·unfold c9 at hpk;split at hpk
  ·rename_i hno;simp [eV] at hno
  ·cases hpk;rename_i ty lo hi _;simp only [mF] at hp
   have fin: ∀x,((yY keep σ (.tmp p)).map (eN g))=some x→bB c env bs x≠none→ ∃u,bB c env bs a=some u:=fun x hx hne=>by
    refine one x hx ?_;cases hx2:bB c env bs x with
    | none=>exact absurd hx2 hne
    | some u=>exact ⟨u,rfl⟩
   split at hp
   ·split at hp
    ·simp only [gQ,Option.map_eq_some_iff] at hp;obtain ⟨x,hx,rfl⟩:=hp;exact fin x (by simpa using hx) (fun e=>by simp [bB,e,ES] at hv)
    ·unfold qi at hp;split at hp
     ·rename_i x y hx hy;cases hp;exact fin x hx (fun e=>by simp [bB,e,Kp] at hv)
     ·cases hp
    ·unfold qi at hp;split at hp
     ·rename_i x y hx hy;cases hp;exact fin x hx (fun e=>by simp [bB,e,Kp] at hv)
     ·cases hp
    ·unfold AW at hp;split at hp
     ·rename_i x y z hx hy hz;cases hp;exact fin x hx (fun e=>by simp [bB,e,Sb] at hv)
     ·cases hp
   ·cases hp
  ·cases hpk
theorem ve {dr:Bool} {i:Nat} {o:Oper} {v:AV} (hw:bL ops t o.guard=some true) (hd: ∀(cf:aL) bs' id,Sub (seen base kl bs) bs'→bV c cf o.op t bs' id=some (v,.none)) (hk:dr=true→ ∀x∈cZ (fM ops) i ops.toList 0 0,x∈kl) (hroot:dr=true→cu c ops i o.op t=true):
  gS c cf ops dr base i o ⟨t,bs⟩=some ⟨bu t o.dst v,bs⟩:=by
 cases dr with
 | false=>simp only [gS,step1,hw];rw [hd _ _ _ (dU _ _)];rfl
 | true=>
  simp only [gS,bc,hw];split
  ·rw [hd _ _ _ (dU _ _)];rfl
  ·rw [hd _ _ _ ?_]
   ·simp only [hroot rfl]
   unfold dA;refine zb (fun x hx=> ?_) bs;rw [show base=base+0 from rfl,mL] at hx;obtain ⟨y,hy,rfl⟩:=List.mem_map.1 hx;exact List.mem_map_of_mem (hk rfl y hy)
theorem vg {dr:Bool} {i:Nat} {o:Oper} (hw:bL ops t o.guard=some false):gS c cf ops dr base i o ⟨t,bs⟩=some ⟨bu t o.dst (.aT []),bs⟩:=by cases dr <;> simp only [gS,step1,bc,hw]
theorem Bc {i:Nat} {v:AV}: ∀{vs:List (Nat×AV)},(∀p∈vs,p.1=i→p.2=v)→(∃p∈vs,p.1=i)→look vs i=v
 | [],_,⟨_,h,_⟩=>by cases h
 | (j,u)::r,h1,⟨p,hp,hpi⟩=>by
  simp only [look];split
  ·rename_i hij;exact h1 (j,u) List.mem_cons_self hij.symm
  ·rename_i hij;refine Bc (fun q hq=>h1 q (List.mem_cons_of_mem _ hq)) ?_;rcases List.mem_cons.1 hp with rfl | hp
   ·exact absurd hpi.symm hij
   ·exact ⟨p,hp,hpi⟩
theorem EZ {g:Option (E×Bool)} (hg: ∀e,bB c env bs (eN g e)=bB c env bs e): ∀{l:List Nat} {xs:List (Nat×E)} {vs:List (Nat×AV)},rJ keep σ l=some xs→og c env bs (xs.map fun p=>(p.1,eN g p.2))=some vs→ ∀i∈l,∀e,yX keep σ i=some e→ ∃u,bB c env bs e=some u
 | [],_,_,_,_=>fun i hi=>by cases hi
 | i::r,xs,vs,h1,h2=>by
  simp only [rJ] at h1;split at h1
  ·rename_i e l he hl;cases h1;simp only [List.map_cons,og] at h2;split at h2
   ·rename_i v hv;split at h2
    ·rename_i vs' hvs';intro j hj e' he';rcases List.mem_cons.1 hj with rfl | hj
     ·rw [he] at he';cases he';exact ⟨v,by rw [←hg];exact hv⟩
     ·exact EZ hg hl hvs' j hj e' he'
    ·cases h2
   ·cases h2
  ·cases h1
theorem ki.args (h:ki c keep nt env bs σ t) {g:Option (E×Bool)} (hg: ∀e,bB c env bs (eN g e)=bB c env bs e): ∀{l:List Nat} {xs:List (Nat×E)} {vs:List (Nat×AV)},rJ keep σ l=some xs→og c env bs (xs.map fun p=>(p.1,eN g p.2))=some vs→(∀p∈vs,p.2=t.get .any p.1)∧ ∀i∈l,∃p∈vs,p.1=i
 | [],xs,vs,h1,h2=>by
  cases h1;cases h2;exact ⟨fun p hp=>(by cases hp),fun i hi=>by cases hi⟩
 | i::r,xs,vs,h1,h2=>by
  simp only [rJ] at h1;split at h1
  ·rename_i e l he hl;cases h1;simp only [List.map_cons,og] at h2;split at h2
   ·rename_i v hv;split at h2
    ·rename_i vs' hvs';cases h2;obtain ⟨k1,k2⟩:=ki.args h hg hl hvs';rw [hg] at hv;refine ⟨fun p hp=> ?_,fun j hj=> ?_⟩
     ·rcases List.mem_cons.1 hp with rfl | hp
      ·exact (h.res he hv).symm
      ·exact k1 p hp
     ·rcases List.mem_cons.1 hj with rfl | hj
      ·exact ⟨_,List.mem_cons_self,rfl⟩
      ·obtain ⟨p,hp,hpi⟩:=k2 j hj;exact ⟨p,List.mem_cons_of_mem _ hp,hpi⟩
    ·cases h2
   ·cases h2
  ·cases h1
theorem kQ {dr:Bool} (hk:dr=true→ ∀i,∀x∈cZ (fM ops) i ops.toList 0 0,x∈kl): ∀(l:List Oper) (i:Nat) (σ:List (Nat×E)) (its:List It) (env:List (Option AV)) (bs:List ad) (t:Env) (env':List (Option AV)) (bs':List ad),
  lF c ops keep nt dr l i σ=some its→ki c keep nt env (seen base kl bs) σ t→br c cf base kl its env bs=some (env',bs')→ ∃t',za c cf ops dr base l i ⟨t,bs⟩=some ⟨t',bs'⟩∧ki c keep nt env' (seen base kl bs') [] t'
 | [],i,σ,its,env,bs,t,env',bs',hl,hr,hrun=>by
  simp only [lF,Option.some.injEq] at hl;subst hl;refine ⟨t,?_⟩;have hu:kg ([]:List (Nat×E)):=fun i e h=>by cases h
  unfold EW at hrun;split at hrun
  ·rename_i hfl;simp only [br,Option.some.injEq,Prod.mk.injEq] at hrun;obtain ⟨rfl,rfl⟩:=hrun;refine ⟨rfl,hr.len,hr.has,hu,fun i e v h=>(by cases h),fun i k v _ hk hv=> ?_⟩;exact hr.flush (vs:= []) (by rw [hfl];rfl) i k v hk hv
  ·simp only [br] at hrun;split at hrun
   ·rename_i vs hvs;simp only [Option.some.injEq,Prod.mk.injEq] at hrun;obtain ⟨rfl,rfl⟩:=hrun;exact ⟨rfl,by rw [ke];exact hr.len,hr.has,hu,fun i e v h=>(by cases h),fun i k v _ hk hv=>hr.flush hvs i k v hk hv⟩
   ·cases hrun
 | o::r,i,σ,its,env,bs,t,env',bs',hl,hr,hrun=>by
  simp only [lF] at hl;split at hl
  ·cases hl
  ·rename_i g hg;split at hl
   ·-- an expression
    rename_i e d hpe hdst;replace hpe:=AZ hpe;split at hl
    ·rename_i hdnt;split at hl
     ·rename_i its' hits
      have key:(bB c env (seen base kl bs) (uZ g e)).isSome=true∧br c cf base kl its' env bs=some (env',bs'):=by
       split at hl
       ·rename_i hcov;cases hl;refine ⟨?_,hrun⟩;unfold covered at hcov;rw [Bool.or_eq_true] at hcov;rcases hcov with hc | hc
        ·cases hw:uZ g e <;> rw [hw] at hc <;> simp only [E.sure,Bool.false_eq_true] at hc;rfl
        ·rw [List.any_eq_true] at hc;obtain ⟨f,hf,hwf⟩:=hc;exact Dm hwf (rN hrun f hf)
       ·cases hl;simp only [br,og] at hrun;split at hrun
        ·rename_i vs hvs;split at hvs
         ·rename_i v hv;cases hvs;refine ⟨by unfold seen;rw [hv];rfl,?_⟩;simp only [dv] at hrun;rw [List.set_eq_of_length_le (by rw [hr.len];exact Nat.le_refl _)] at hrun;exact hrun
         ·cases hvs
        ·cases hrun
      obtain ⟨hsome,hrun⟩:=key;obtain ⟨v,hv⟩:=Option.isSome_iff_exists.1 hsome
      have hstep:gS c cf ops dr base i o ⟨t,bs⟩=some ⟨bu t o.dst v,bs⟩:=by
       have pure: ∀(hgs: ∀x,bB c env (seen base kl bs) (eN g x)=bB c env (seen base kl bs) x) (hev:bB c env (seen base kl bs) e=some v) (cf:aL) (bs':List ad) (id:Nat),Sub (seen base kl bs) bs'→bV c cf o.op t bs' id=some (v,.none):=by intro hgs hev cf bs' id hs;refine uU hs trivial ?_;rw [H8];refine Kt (ρ:=fun x=>(yY keep σ x).map (eN g)) (fun x e v hx hv=> ?_) hpe hev id;simp only [Option.map_eq_some_iff] at hx;obtain ⟨e0,h0,rfl⟩:=hx;rw [hgs] at hv;exact hr.yY h0 hv
       cases g with
       | none=>exact ve (xF hg) (pure (fun _=>rfl) hv) (fun h=>hk h i) (fun h=>by subst h;exact Bb hr (g:=none) hpe (fun _=>rfl) hv (Bool.and_eq_true _ _▸hdnt:_∧_).2)
       | some q=>
        obtain ⟨x,w⟩:=q;simp only [uZ,bB] at hv;rcases gR hv with ⟨h1,h2⟩ | ⟨h1,rfl⟩ | ⟨⟨l,h1⟩,rfl⟩
        ·refine ve ?_ (pure (fun y=>iP h1 y) h2) (fun h=>hk h i) (fun h=>by subst h;exact Bb hr (g:=some (x,w)) hpe (fun y=>iP h1 y) h2 (Bool.and_eq_true _ _▸hdnt:_∧_).2);rw [hr.want hg h1];simp [sT]
        ·refine vg ?_;rw [hr.want hg h1];cases w <;> rfl
        ·refine vg ?_;rw [hr.want hg h1];rfl
      rw [hdst] at hstep;have hd:t.has d=true:=hr.has d (by have h:=(Bool.and_eq_true _ _▸hdnt:_∧_).1;simpa using h)
      have hrel:ki c keep nt env (seen base kl bs) ((d,uZ g e)::σ.filter fun p=>p.1 !=d) (t.set d v):=by
       refine ⟨hr.len,fun i hi=>by rw [Tr.fr];exact hr.has i hi,hr.uniq.cons _ _,fun j f u hj hu=> ?_,fun j k u hj hk hu=> ?_⟩
       ·simp only [du] at hj;split at hj
        ·rename_i hjd;subst hjd;cases hj;rw [hv] at hu;cases hu;exact Tr.dE _ _ _ hd
        ·rename_i hjd;rw [Tr.bo _ _ _ (Ne.symm hjd)];exact hr.NQ j f u (hr.uniq.look hj).1 hu
       ·simp only [du] at hj;split at hj
        ·cases hj
        ·rename_i hjd;rw [Tr.bo _ _ _ (Ne.symm hjd)];refine hr.env j k u ?_ hk hu;cases hlj:du σ j with
         | none=>rfl
         | some f=>obtain ⟨f',hf'⟩:=pj (σ:=σ.filter fun p=>p.1 !=d) (List.mem_filter.2 ⟨kP hlj,by simpa using hjd⟩);rw [hj] at hf';cases hf'
      obtain ⟨t',h1,h2⟩:=kQ hk r (i+1) _ _ env bs _ env' bs' hits hrel hrun;refine ⟨t',?_,h2⟩;simp only [za,hstep];exact h1
     ·cases hl
    ·cases hl
   ·-- an operation
    split at hl
    ·cases hl
    ·rename_i g' hg';split at hl
     ·cases hl
     ·rename_i xs hxs;split at hl
      ·rename_i hdok;split at hl
       ·rename_i its' hits;simp only [Option.some.injEq] at hl;subst hl
        -- the variables are set
        obtain ⟨vs,hvs,hrun⟩: ∃vs,og c env (seen base kl bs) (dw keep σ keep 0)=some vs∧br c cf base kl (.dT (tU c ops dr i o.op) (cv ops.toList i 0) (AX keep o.dst) g' o.op (xs.map fun p=>(p.1,eN g' p.2))::its') (dv env vs) bs=some (env',bs'):=by
         unfold EW at hrun;split at hrun
         ·rename_i hfl;exact ⟨[],by rw [hfl];rfl,hrun⟩
         ·rw [br] at hrun;split at hrun
          ·rename_i vs hvs;exact ⟨vs,hvs,hrun⟩
          ·cases hrun
        have hr1:=hr.Kv hvs;have hall:=hr.flush hvs
        -- what is behind the operation
        have after: ∀(v:AV) (bs2:List ad),gS c cf ops dr base i o ⟨t,bs⟩=some ⟨bu t o.dst v,bs2⟩→br c cf base kl its' (uX (dv env vs) (AX keep o.dst) v) bs2=some (env',bs')→
          ∃t',za c cf ops dr base (o::r) i ⟨t,bs⟩=some ⟨t',bs'⟩∧ki c keep nt env' (seen base kl bs') [] t':=by
         intro v bs2 hstep hrun2
         have hrel:ki c keep nt (uX (dv env vs) (AX keep o.dst) v) (seen base kl bs2) (Me keep o.dst (xB keep (dw keep σ keep 0) σ)) (bu t o.dst v):=by
          refine ⟨?_,Kw hr.has _ _,hr1.uniq.filter _,fun j f u hj hu=> ?_,fun j k u hj hk hu=> ?_⟩
          ·have:=hr1.len;cases AX keep o.dst with
           | none=>exact this
           | some p=>simp only [uX,List.length_set];exact this
          ·obtain ⟨h1,h2⟩:=hr1.uniq.look hj;simp only [Bool.and_eq_true,Bool.not_eq_true'] at h2;rw [u7 h2.1 (bs':=seen base kl bs)] at hu;cases hd:o.dst with
           | none=>rw [hd] at hu;exact hr1.NQ j f u h1 hu
           | some d=>
            rw [hd] at hu h2;simp only [Bool.and_eq_true,bne_iff_ne] at h2;simp only [bu];rw [Tr.bo _ _ _ (Ne.symm h2.2.1)];refine hr1.NQ j f u h1 ?_;simp only [AX] at hu;cases hp:posOf keep d with
            | none=>rw [hp] at hu;exact hu
            | some p=>rw [hp] at hu h2;simp only [uX] at hu;rw [y9 (by simpa using h2.2.2)] at hu;exact hu
          ·cases hd:o.dst with
           | none=>rw [hd] at hu;exact hall j k u hk hu
           | some d=>
            rw [hd] at hu;have hdn:d<nt:=by have hdok0:=(Bool.and_eq_true _ _▸hdok:_∧_).1;have hdok1:=(Bool.and_eq_true _ _▸hdok0:_∧_).1;rw [hd] at hdok1;simpa [Mf] using hdok1
            simp only [bu];by_cases hjd:j=d
            ·subst hjd;simp only [AX,hk,uX] at hu;have hlt:k<(dv env vs).length:=by rw [hr1.len];exact (List.getElem?_eq_some_iff.1 (de hk)).1
             simp [List.getD_eq_getElem?_getD,hlt] at hu;subst hu;exact Tr.dE _ _ _ (hr.has j hdn)
            ·rw [Tr.bo _ _ _ (Ne.symm hjd)];refine hall j k u hk ?_;simp only [AX] at hu;cases hp:posOf keep d with
             | none=>rw [hp] at hu;exact hu
             | some p=>rw [hp] at hu;simp only [uX] at hu;have:p≠k:=fun e=>hjd (rO hk (e▸hp));simp only [List.getD_eq_getElem?_getD] at hu⊢;rw [List.getElem?_set_ne this] at hu;exact hu
         obtain ⟨t',h1,h2⟩:=kQ hk r (i+1) _ _ _ bs2 _ env' bs' hits hrel hrun2;refine ⟨t',?_,h2⟩;simp only [za,hstep];exact h1
        simp only [br] at hrun;split at hrun
        ·-- it is wanted
         rename_i hw
         have hwant:bL ops t o.guard=some true∧ ∀e,bB c (dv env vs) (seen base kl bs) (eN g' e)=bB c (dv env vs) (seen base kl bs) e:=by
          cases g' with
          | none=>exact ⟨xF hg',fun _=>rfl⟩
          | some q=>
           obtain ⟨x,w⟩:=q;simp only [sU] at hw;cases hx:bB c (dv env vs) (seen base kl bs) x with
           | none=>rw [hx] at hw;cases hw
           | some u=>
            rw [hx] at hw;refine ⟨by rw [hr1.want hg' hx];exact hw,fun e=> ?_⟩;simp only [sT] at hw;split at hw
            ·rename_i b hb;cases hb;have:b=w:=by simpa using hw
             subst this;exact iP hx e
            ·cases hw
            ·cases hw
         split at hrun
         ·rename_i vs' hvs';obtain ⟨k1,k2⟩:=hr1.args hwant.2 hxs hvs'
          have hops: ∀x∈o.op.operands,Sc vs' x=ev t x:=by
           intro x hx;cases x with
           | tmp j=>refine Bc (fun p hp hpj=>by rw [k1 p hp,hpj];rfl) (k2 j (List.mem_append_left _ ?_));exact List.mem_filterMap.2 ⟨.tmp j,by simpa using hx,rfl⟩
           | const u=>rfl
           | func f=>rfl
           | global g=>rfl
          have hdo: ∀(cf:aL) bs3 id,dL c cf o.op (Sc vs') bs3 id=bV c cf o.op t bs3 id:=fun cf bs3 id=>by rw [H8];exact A7 c cf hops bs3 id
          have hid:base+cv ops.toList i 0=cv ops.toList i base:=by rw [←A9];rfl
          split at hrun
          ·rename_i v bs2 heff;refine after v bs2 ?_ hrun;unfold F6 at heff;split at heff
           ·rename_i hm;rw [hdo,hid] at heff;unfold EU at heff
            have hm':dr=true→alone ops i=true:=fun h=>by
             subst h;unfold tU at hm;split at hm
             ·cases hm
             ·rename_i ha;simpa using ha
            split at heff
            ·rename_i v' e hdoe;split at heff
             ·rename_i bs3 hon;cases heff;cases dr with
              | false=>simp only [gS,step1,hwant.1,hdoe,hon]
              | true=>simp only [gS,bc,hwant.1,hm' rfl,hdoe,hon]
             ·cases heff
            ·cases heff
           ·rename_i ms hm;unfold tU at hm;split at hm
            ·rename_i ha;simp only [Bool.and_eq_true,Bool.not_eq_true'] at ha;cases hm;simp only [List.tail_cons,List.headD_cons] at heff;rw [AY] at heff;rw [hdo,hid] at heff
             have hmask:aY ((cZ (fM ops) i ops.toList 0 0).map (base+ ·)) bs=dA ops base i bs:=by unfold dA;rw [←mL];rfl
             rw [hmask] at heff;rw [ha.1]
             have hrt:cu c ops i o.op t=true:=by have h2:=(Bool.and_eq_true _ _▸hdok:_∧_).2;rw [ha.1] at h2;exact Ba hr1 (fun p hp=>EZ hwant.2 hxs hvs' p (List.mem_append_left _ (Kx hp))) hwant.2 h2
             unfold ET at heff;split at heff
             ·rename_i v' hdoe;cases heff;simp only [gS,bc,hwant.1,ha.2,hdoe,hrt]
             ·rename_i v' x hdoe;split at heff
              ·rename_i hask;split at heff
               ·rename_i hdead;cases heff;simp only [gS,bc,hwant.1,ha.2,hdoe,hask,hdead]
               ·cases heff
              ·cases heff
             ·rename_i v' kk ty cs hdoe;split at heff
              ·rename_i hcalm;cases heff;rw [Bool.and_eq_true] at hcalm;have hcond:(dr&& !alone ops i&&cC o.op)=true:=by rw [ha.1,ha.2,hcalm.1];rfl
               have hcond2:(dr&& !alone ops i&&(cC o.op || (fc o.op&&bM ops i o.op)))=true:=by rw [ha.1,ha.2,hcalm.1];rfl
               have hfit:bM ops i o.op=true:=by have hdok0:=(Bool.and_eq_true _ _▸hdok:_∧_).1;have h2:=(Bool.and_eq_true _ _▸hdok0:_∧_).2;unfold Mg at h2;rw [hcond] at h2;exact h2
               have hnear:pe c ops dr i o.op=gN ops i:=by unfold pe;rw [hcond2]
               have hall2:((gN ops i).all fun p=>fj kk (t.get .any p))=true:=by rw [List.all_eq_true];intro p hp;obtain ⟨q,hq,hqp⟩:=k2 p (List.mem_append_right _ (by rw [hnear];exact hp));have h3:=hcalm.2;unfold AU at h3;rw [List.all_eq_true] at h3;have h4:=h3 q hq;rw [k1 q hq,hqp,xq hfit hp,Bool.false_or] at h4;exact h4
               simp only [gS,bc,hwant.1,ha.2,hdoe,hfit,sK,hcalm.1,hrt,hall2,Bool.and_self]
              ·cases heff
             ·rename_i v' kk sh sz es hdoe;split at heff
              ·rename_i hcalm;cases heff;rw [Bool.and_eq_true] at hcalm
               have hgr:(fc o.op&&bM ops i o.op)=true:=by have h1:=hcalm.1;rw [F7] at h1;exact h1
               have hfit:bM ops i o.op=true:=(Bool.and_eq_true _ _▸hgr:_∧_).2;have hgrow:fc o.op=true:=(Bool.and_eq_true _ _▸hgr:_∧_).1;have hcond2:(dr&& !alone ops i&&(cC o.op || (fc o.op&&bM ops i o.op)))=true:=by rw [ha.1,ha.2,hgr];simp
               have hnear:pe c ops dr i o.op=gN ops i:=by unfold pe;rw [hcond2]
               have hall2:((gN ops i).all fun p=>fj kk (t.get .any p))=true:=by rw [List.all_eq_true];intro p hp;obtain ⟨q,hq,hqp⟩:=k2 p (List.mem_append_right _ (by rw [hnear];exact hp));have h3:=hcalm.2;unfold AU at h3;rw [List.all_eq_true] at h3;have h4:=h3 q hq;rw [k1 q hq,hqp,xq hfit hp,Bool.false_or] at h4;exact h4
               simp only [gS,bc,hwant.1,ha.2,hdoe,hfit,sK,hgrow,hrt,hall2,Bool.and_self]
              ·cases heff
             ·rename_i v' bx hdoe;split at heff
              ·rename_i hcalm;cases heff;rw [Bool.and_eq_true,AY] at hcalm;have hap:=hcalm.1
               have hcv:eC o.op=true:=by have h1:=hap;simp only [bY,Bool.and_eq_true] at h1;exact AH h1.1.1
               obtain ⟨hns,hng⟩:=xC hcv
               have hnear:pe c ops dr i o.op=jI ops i:=by unfold pe;rw [hns,hng,ha.1,ha.2,hap];rfl
               have hall2:((jI ops i).all fun p=>jc bs.length (t.get .any p))=true:=by rw [List.all_eq_true];intro p hp;obtain ⟨q,hq,hqp⟩:=k2 p (List.mem_append_right _ (by rw [hnear];exact hp));have h3:=hcalm.2;rw [List.all_eq_true] at h3;have h4:=h3 q hq;rw [k1 q hq,hqp] at h4;exact h4
               rw [hap] at hdoe;simp only [gS,bc,hwant.1,ha.2,hap,hdoe,hall2,Bool.and_self]
              ·cases heff
             ·cases heff
            ·cases hm
          ·cases hrun
         ·cases hrun
        ·-- it is not
         rename_i hw;refine after (.aT []) bs (vg ?_) hrun;cases g' with
         | none=>simp [sU] at hw
         | some q=>
          obtain ⟨x,w⟩:=q;simp only [sU] at hw;cases hx:bB c (dv env vs) (seen base kl bs) x with
          | none=>rw [hx] at hw;cases hw
          | some u=>rw [hx] at hw;rw [hr1.want hg' hx];exact hw
        ·cases hrun
       ·cases hl
      ·cases hl
end
end Go.Am
