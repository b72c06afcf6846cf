/- What expressions ask, and what they hang on. -/
import Derived.Test.YtnlndhjfmghajaaGreatDoorAmIr
set_option linter.all false
namespace Go.Am
theorem sameL_eq: ∀{a b:List UInt8},sameL a b=true→a=b
 | [], [],_=>rfl
 | [],_::_,h=>by cases h
 | _::_, [],h=>by cases h
 | a::l,b::m,h=>by
  simp only [sameL,Bool.and_eq_true,beq_iff_eq] at h
  rw [h.1,sameL_eq h.2]
theorem sameAV_eq: ∀{a b:AV},sameAV a b=true→a=b:=by
 intro a b h
 unfold sameAV at h
 split at h
 ·simp only [Bool.and_eq_true,beq_iff_eq] at h;rw [h.1,h.2]
 ·rw [beq_iff_eq] at h;rw [h]
 ·rw [sameL_eq h]
 ·rfl
 ·cases h
theorem sameE_eq: ∀{a b:E},sameE a b=true→a=b:=by
 intro a
 induction a <;> intro b h <;> cases b <;> simp only [sameE,Bool.and_eq_true,beq_iff_eq,Bool.false_eq_true] at h
 case cst.cst=>rw [sameAV_eq h]
 case var.var=>rw [h]
 case bin.bin ih1 ih2 _ _ _ _=>obtain ⟨⟨⟨rfl,rfl⟩,h1⟩,h2⟩:=h;rw [ih1 h1,ih2 h2]
 case un.un ih _ _=>obtain ⟨rfl,h1⟩:=h;rw [ih h1]
 case pick.pick ih1 ih2 ih3 _ _ _=>obtain ⟨⟨h1,h2⟩,h3⟩:=h;rw [ih1 h1,ih2 h2,ih3 h3]
 case guard.guard ih1 ih2 _ _ _=>obtain ⟨⟨h1,rfl⟩,h3⟩:=h;rw [ih1 h1,ih2 h3]
 case and.and ih1 ih2 _ _=>rw [ih1 h.1,ih2 h.2]
 case or.or ih1 ih2 _ _=>rw [ih1 h.1,ih2 h.2]
 case index.index ih1 ih2 _ _ _=>obtain ⟨⟨rfl,h1⟩,h2⟩:=h;rw [ih1 h1,ih2 h2]
 case field.field ih _ _ _=>obtain ⟨⟨rfl,h1⟩,rfl⟩:=h;rw [ih h1]
 case extract.extract ih _ _=>obtain ⟨h1,rfl⟩:=h;rw [ih h1]
 case conv.conv ih _ _ _=>obtain ⟨⟨rfl,rfl⟩,h1⟩:=h;rw [ih h1]
 case toInt.toInt ih _ _=>obtain ⟨rfl,h1⟩:=h;rw [ih h1]
 case len.len ih _ _=>obtain ⟨rfl,h1⟩:=h;rw [ih h1]
 case lenS.lenS ih _=>rw [ih h]
 case slA.slA ih _=>rw [ih h]
 case slL.slL ih1 ih2 _ _=>rw [ih1 h.1,ih2 h.2]
 case slH.slH ih1 ih2 _ _=>rw [ih1 h.1,ih2 h.2]
 case slB.slB ih1 ih2 ih3 _ _ _=>rw [ih1 h.1.1,ih2 h.1.2,ih3 h.2]
 case load.load ih _ _=>obtain ⟨rfl,h1⟩:=h;rw [ih h1]
 case faddr.faddr ih _ _ _=>obtain ⟨⟨rfl,h1⟩,rfl⟩:=h;rw [ih h1]
 case iaddr.iaddr ih1 ih2 _ _ _=>obtain ⟨⟨rfl,h1⟩,h2⟩:=h;rw [ih1 h1,ih2 h2]
 case nilck.nilck ih _=>rw [ih h]
theorem out1_some {o:Out} {v:AV} (h:out1 o=some v):o=some (v,.none):=by
 unfold out1 at h
 split at h
 ·cases h;rfl
 ·cases h
theorem ap1_some {x:Option AV} {f:AV→Option AV} {v:AV} (h:ap1 x f=some v): ∃a,x=some a∧f a=some v:=by
 cases x with
 | none=>cases h
 | some a=>exact ⟨a,rfl,h⟩
theorem ap2_some {x y:Option AV} {f:AV→AV→Option AV} {v:AV} (h:ap2 x y f=some v): ∃a b,x=some a∧y=some b∧f a b=some v:=by
 cases x with
 | none=>cases h
 | some a=>cases y with
  | none=>cases h
  | some b=>exact ⟨a,b,rfl,rfl,h⟩
theorem ap3_some {x y z:Option AV} {f:AV→AV→AV→Option AV} {v:AV} (h:ap3 x y z f=some v): ∃a b d,x=some a∧y=some b∧z=some d∧f a b d=some v:=by
 cases x with
 | none=>cases h
 | some a=>cases y with
  | none=>cases h
  | some b=>cases z with
   | none=>cases h
   | some d=>exact ⟨a,b,d,rfl,rfl,rfl,h⟩
theorem guardV_some {g e:Option AV} {w:Bool} {v:AV} (h:guardV g w e=some v):(g=some (.bool w)∧e=some v)∨(g=some (.bool (!w))∧v= .tup [])∨(∃l,g=some (.tup l))∧v= .tup []:=by
 unfold guardV at h
 split at h
 ·rename_i b
  split at h
  ·rename_i hb;rw [beq_iff_eq] at hb;subst hb;exact .inl ⟨rfl,h⟩
  ·rename_i hb;cases h;refine .inr (.inl ⟨?_,rfl⟩);cases b <;> cases w <;> simp_all
 ·cases h;exact .inr (.inr ⟨⟨_,rfl⟩,rfl⟩)
 ·cases h
theorem guardV_yes (w:Bool) (e:Option AV):guardV (some (.bool w)) w e=e:=by simp [guardV]
theorem guardV_no (w:Bool) (e:Option AV):guardV (some (.bool (!w))) w e=some (.tup []):=by cases w <;> rfl
theorem guardV_tup (w:Bool) (l:List AV) (e:Option AV):guardV (some (.tup l)) w e=some (.tup []):=rfl
theorem andV_some {p b:Option AV} {v:AV} (h:andV p b=some v):(p=some (.bool true)∧b=some v)∨(p=some (.bool false)∧v= .bool false):=by
 unfold andV at h
 split at h
 ·exact .inl ⟨rfl,h⟩
 ·cases h;exact .inr ⟨rfl,rfl⟩
 ·cases h
theorem orV_some {p b:Option AV} {v:AV} (h:orV p b=some v):(p=some (.bool false)∧b=some v)∨(p=some (.bool true)∧v= .bool true):=by
 unfold orV at h
 split at h
 ·cases h;exact .inr ⟨rfl,rfl⟩
 ·exact .inl ⟨rfl,h⟩
 ·cases h
section
variable {c:Cfg} {env:List (Option AV)}
theorem out1_sub {o o':Out} {v:AV} (h:out1 o=some v) (hs: ∀r e,e.soft→o=some (r,e)→o'=some (r,e)):out1 o'=some v:=by
 rw [hs v .none trivial (out1_some h)];rfl
theorem lenT_sub {bs bs':List Box} (hs:Sub bs bs') {ty:TypeId} {x r:AV} {e:Eff} (h:lenT c ty x bs=some (r,e)):lenT c ty x bs'=some (r,e):=by
 unfold lenT at h⊢
 split at h
 ·exact len_sub hs h
 ·cases h
theorem evE_sub {bs bs':List Box} (hs:Sub bs bs'): ∀{e:E} {v:AV},evE c env bs e=some v→evE c env bs' e=some v:=by
 intro e
 induction e <;> intro v h <;> simp only [evE] at h⊢
 case var=>exact h
 case cst=>exact h
 case bin ih1 ih2=>obtain ⟨a,b,h1,h2,h3⟩:=ap2_some h;rw [ih1 h1,ih2 h2];exact h3
 case un ih=>obtain ⟨a,h1,h2⟩:=ap1_some h;rw [ih h1];exact h2
 case pick ih1 ih2 ih3=>obtain ⟨a,b,d,h1,h2,h3,h4⟩:=ap3_some h;rw [ih1 h1,ih2 h2,ih3 h3];exact h4
 case guard ih1 ih2=>
  rcases guardV_some h with ⟨h1,h2⟩ | ⟨h1,rfl⟩ | ⟨⟨l,h1⟩,rfl⟩
  ·rw [ih1 h1,guardV_yes,ih2 h2]
  ·rw [ih1 h1,guardV_no]
  ·rw [ih1 h1,guardV_tup]
 case and ih1 ih2=>
  rcases andV_some h with ⟨h1,h2⟩ | ⟨h1,rfl⟩
  ·rw [ih1 h1,ih2 h2];rfl
  ·rw [ih1 h1];rfl
 case or ih1 ih2=>
  rcases orV_some h with ⟨h1,h2⟩ | ⟨h1,rfl⟩
  ·rw [ih1 h1,ih2 h2];rfl
  ·rw [ih1 h1];rfl
 case index ih1 ih2=>obtain ⟨a,b,h1,h2,h3⟩:=ap2_some h;rw [ih1 h1,ih2 h2];exact h3
 case field ih=>obtain ⟨a,h1,h2⟩:=ap1_some h;rw [ih h1];exact h2
 case extract ih=>obtain ⟨a,h1,h2⟩:=ap1_some h;rw [ih h1];exact h2
 case conv ih=>obtain ⟨a,h1,h2⟩:=ap1_some h;rw [ih h1];exact out1_sub h2 fun r e _ h=>convert_sub hs h
 case toInt ih=>obtain ⟨a,h1,h2⟩:=ap1_some h;rw [ih h1];exact h2
 case len ih=>obtain ⟨a,h1,h2⟩:=ap1_some h;rw [ih h1];exact out1_sub h2 fun r e _ h=>lenT_sub hs h
 case lenS ih=>obtain ⟨a,h1,h2⟩:=ap1_some h;rw [ih h1];exact h2
 case slA ih=>obtain ⟨a,h1,h2⟩:=ap1_some h;rw [ih h1];exact h2
 case slL ih1 ih2=>obtain ⟨a,b,h1,h2,h3⟩:=ap2_some h;rw [ih1 h1,ih2 h2];exact h3
 case slH ih1 ih2=>obtain ⟨a,b,h1,h2,h3⟩:=ap2_some h;rw [ih1 h1,ih2 h2];exact h3
 case slB ih1 ih2 ih3=>obtain ⟨a,b,d,h1,h2,h3,h4⟩:=ap3_some h;rw [ih1 h1,ih2 h2,ih3 h3];exact h4
 case load ih=>obtain ⟨a,h1,h2⟩:=ap1_some h;rw [ih h1];exact out1_sub h2 fun r e _ h=>load_sub hs h
 case faddr ih=>obtain ⟨a,h1,h2⟩:=ap1_some h;rw [ih h1];exact out1_sub h2 fun r e _ h=>fieldAddr_sub hs h
 case iaddr ih1 ih2=>obtain ⟨a,b,h1,h2,h3⟩:=ap2_some h;rw [ih1 h1,ih2 h2];exact out1_sub h3 fun r e _ h=>indexAddr_sub hs h
 case nilck ih=>obtain ⟨a,h1,h2⟩:=ap1_some h;rw [ih h1];exact h2
theorem evE_noread {bs bs':List Box}: ∀{e:E},e.reads=false→evE c env bs e=evE c env bs' e:=by
 intro e
 induction e <;> intro h <;> simp only [E.reads,Bool.or_eq_false_iff,Bool.true_eq_false] at h <;> simp only [evE]
 case bin ih1 ih2=>rw [ih1 h.1,ih2 h.2]
 case un ih=>rw [ih h]
 case pick ih1 ih2 ih3=>rw [ih1 h.1.1,ih2 h.1.2,ih3 h.2]
 case guard ih1 ih2=>rw [ih1 h.1,ih2 h.2]
 case and ih1 ih2=>rw [ih1 h.1,ih2 h.2]
 case or ih1 ih2=>rw [ih1 h.1,ih2 h.2]
 case index ih1 ih2=>rw [ih1 h.1,ih2 h.2]
 case field ih=>rw [ih h]
 case extract ih=>rw [ih h]
 case toInt ih=>rw [ih h]
 case lenS ih=>rw [ih h]
 case slA ih=>rw [ih h]
 case slL ih1 ih2=>rw [ih1 h.1,ih2 h.2]
 case slH ih1 ih2=>rw [ih1 h.1,ih2 h.2]
 case slB ih1 ih2 ih3=>rw [ih1 h.1.1,ih2 h.1.2,ih3 h.2]
 case nilck ih=>rw [ih h]
theorem evE_set {bs:List Box} {k:Nat} {x:Option AV}: ∀{e:E},e.looks k=false→evE c (env.set k x) bs e=evE c env bs e:=by
 intro e
 induction e <;> intro h <;> simp only [E.looks,Bool.or_eq_false_iff,beq_eq_false_iff_ne,ne_eq] at h <;> simp only [evE]
 case var i=>simp only [vget,List.getD_eq_getElem?_getD,List.getElem?_set_ne h]
 case bin ih1 ih2=>rw [ih1 h.1,ih2 h.2]
 case un ih=>rw [ih h]
 case pick ih1 ih2 ih3=>rw [ih1 h.1.1,ih2 h.1.2,ih3 h.2]
 case guard ih1 ih2=>rw [ih1 h.1,ih2 h.2]
 case and ih1 ih2=>rw [ih1 h.1,ih2 h.2]
 case or ih1 ih2=>rw [ih1 h.1,ih2 h.2]
 case index ih1 ih2=>rw [ih1 h.1,ih2 h.2]
 case field ih=>rw [ih h]
 case extract ih=>rw [ih h]
 case conv ih=>rw [ih h]
 case toInt ih=>rw [ih h]
 case len ih=>rw [ih h]
 case lenS ih=>rw [ih h]
 case slA ih=>rw [ih h]
 case slL ih1 ih2=>rw [ih1 h.1,ih2 h.2]
 case slH ih1 ih2=>rw [ih1 h.1,ih2 h.2]
 case slB ih1 ih2 ih3=>rw [ih1 h.1.1,ih2 h.1.2,ih3 h.2]
 case load ih=>rw [ih h]
 case faddr ih=>rw [ih h]
 case iaddr ih1 ih2=>rw [ih1 h.1,ih2 h.2]
 case nilck ih=>rw [ih h]
theorem evE_strip {bs:List Box} {g:E} {w:Bool} (hg:evE c env bs g=some (.bool w)): ∀(e:E),evE c env bs (stripE g w e)=evE c env bs e:=by
 intro e
 induction e <;> simp only [stripE]
 case guard x v y ih1 ih2=>
  split
  ·rename_i h
   simp only [Bool.and_eq_true,beq_iff_eq] at h
   obtain ⟨h1,rfl⟩:=h
   obtain rfl:=sameE_eq h1
   rw [ih2];simp only [evE];rw [hg,guardV_yes]
  ·simp only [evE];rw [ih1,ih2]
 all_goals simp only [evE, *]
theorem evE_headed {bs:List Box} {g:E} {w:Bool} (hg:evE c env bs g=some (.bool (!w))∨ ∃l,evE c env bs g=some (.tup l)): ∀{e:E},headedE g w e=true→evE c env bs e=some (.tup []):=by
 intro e
 induction e <;> intro h <;> simp only [headedE,Bool.false_eq_true] at h
 case guard x v y ih1 ih2=>
  simp only [Bool.or_eq_true,Bool.and_eq_true,beq_iff_eq] at h
  simp only [evE]
  rcases h with ⟨h1,rfl⟩ | h1
  ·obtain rfl:=sameE_eq h1
   rcases hg with hg | ⟨l,hg⟩
   ·rw [hg,guardV_no]
   ·rw [hg,guardV_tup]
  ·rw [ih1 h1,guardV_tup]
theorem evE_within {bs:List Box}: ∀{F e:E},e.within F=true→(evE c env bs F).isSome=true→(evE c env bs e).isSome=true:=by
 intro F
 induction F <;> intro e h hF <;> simp only [E.within,Bool.or_eq_true,Bool.and_eq_true] at h
 case var=>rw [sameE_eq h];exact hF
 case cst=>rw [sameE_eq h];exact hF
 case guard g w x ih1 ih2=>
  rcases h with (h | h) | ⟨h1,h2⟩
  ·rw [sameE_eq h];exact hF
  ·obtain ⟨v,hv⟩:=Option.isSome_iff_exists.1 hF
   refine ih1 h ?_
   simp only [evE] at hv
   rcases guardV_some hv with ⟨h1,h2⟩ | ⟨h1,rfl⟩ | ⟨⟨l,h1⟩,rfl⟩ <;> rw [h1] <;> rfl
  ·obtain ⟨v,hv⟩:=Option.isSome_iff_exists.1 hF
   simp only [evE] at hv
   rcases guardV_some hv with ⟨h3,h4⟩ | ⟨h3,rfl⟩ | ⟨h3,rfl⟩
   ·rw [←evE_strip h3];exact ih2 h2 (by rw [h4];rfl)
   ·rw [evE_headed (.inl h3) h1];rfl
   ·rw [evE_headed (.inr h3) h1];rfl
 case and g x ih1 ih2=>
  rcases h with (h | h) | ⟨h1,h2⟩
  ·rw [sameE_eq h];exact hF
  ·obtain ⟨v,hv⟩:=Option.isSome_iff_exists.1 hF
   refine ih1 h ?_
   simp only [evE] at hv
   rcases andV_some hv with ⟨h1,h2⟩ | ⟨h1,rfl⟩ <;> rw [h1] <;> rfl
  ·obtain ⟨v,hv⟩:=Option.isSome_iff_exists.1 hF
   simp only [evE] at hv
   rcases andV_some hv with ⟨h3,h4⟩ | ⟨h3,rfl⟩
   ·rw [←evE_strip h3];exact ih2 h2 (by rw [h4];rfl)
   ·rw [evE_headed (.inl h3) h1];rfl
 case or g x ih1 ih2=>
  rcases h with (h | h) | ⟨h1,h2⟩
  ·rw [sameE_eq h];exact hF
  ·obtain ⟨v,hv⟩:=Option.isSome_iff_exists.1 hF
   refine ih1 h ?_
   simp only [evE] at hv
   rcases orV_some hv with ⟨h1,h2⟩ | ⟨h1,rfl⟩ <;> rw [h1] <;> rfl
  ·obtain ⟨v,hv⟩:=Option.isSome_iff_exists.1 hF
   simp only [evE] at hv
   rcases orV_some hv with ⟨h3,h4⟩ | ⟨h3,rfl⟩
   ·rw [←evE_strip h3];exact ih2 h2 (by rw [h4];rfl)
   ·rw [evE_headed (.inl h3) h1];rfl
 case pick p x y ih1 ih2 ih3=>
  obtain ⟨v,hv⟩:=Option.isSome_iff_exists.1 hF
  simp only [evE] at hv
  obtain ⟨a,b,d,h1,h2,h3,h4⟩:=ap3_some hv
  rcases h with ((h | h) | h) | h
  ·rw [sameE_eq h];exact hF
  ·exact ih1 h (by rw [h1];rfl)
  ·exact ih2 h (by rw [h2];rfl)
  ·exact ih3 h (by rw [h3];rfl)
 case slB p x y ih1 ih2 ih3=>
  obtain ⟨v,hv⟩:=Option.isSome_iff_exists.1 hF
  simp only [evE] at hv
  obtain ⟨a,b,d,h1,h2,h3,h4⟩:=ap3_some hv
  rcases h with ((h | h) | h) | h
  ·rw [sameE_eq h];exact hF
  ·exact ih1 h (by rw [h1];rfl)
  ·exact ih2 h (by rw [h2];rfl)
  ·exact ih3 h (by rw [h3];rfl)
 case bin ih1 ih2=>
  obtain ⟨v,hv⟩:=Option.isSome_iff_exists.1 hF
  simp only [evE] at hv
  obtain ⟨a,b,h1,h2,h3⟩:=ap2_some hv
  rcases h with (h | h) | h
  ·rw [sameE_eq h];exact hF
  ·exact ih1 h (by rw [h1];rfl)
  ·exact ih2 h (by rw [h2];rfl)
 case index ih1 ih2=>
  obtain ⟨v,hv⟩:=Option.isSome_iff_exists.1 hF
  simp only [evE] at hv
  obtain ⟨a,b,h1,h2,h3⟩:=ap2_some hv
  rcases h with (h | h) | h
  ·rw [sameE_eq h];exact hF
  ·exact ih1 h (by rw [h1];rfl)
  ·exact ih2 h (by rw [h2];rfl)
 case slL ih1 ih2=>
  obtain ⟨v,hv⟩:=Option.isSome_iff_exists.1 hF
  simp only [evE] at hv
  obtain ⟨a,b,h1,h2,h3⟩:=ap2_some hv
  rcases h with (h | h) | h
  ·rw [sameE_eq h];exact hF
  ·exact ih1 h (by rw [h1];rfl)
  ·exact ih2 h (by rw [h2];rfl)
 case slH ih1 ih2=>
  obtain ⟨v,hv⟩:=Option.isSome_iff_exists.1 hF
  simp only [evE] at hv
  obtain ⟨a,b,h1,h2,h3⟩:=ap2_some hv
  rcases h with (h | h) | h
  ·rw [sameE_eq h];exact hF
  ·exact ih1 h (by rw [h1];rfl)
  ·exact ih2 h (by rw [h2];rfl)
 case iaddr ih1 ih2=>
  obtain ⟨v,hv⟩:=Option.isSome_iff_exists.1 hF
  simp only [evE] at hv
  obtain ⟨a,b,h1,h2,h3⟩:=ap2_some hv
  rcases h with (h | h) | h
  ·rw [sameE_eq h];exact hF
  ·exact ih1 h (by rw [h1];rfl)
  ·exact ih2 h (by rw [h2];rfl)
 all_goals
  rename_i ih
  obtain ⟨v,hv⟩:=Option.isSome_iff_exists.1 hF
  simp only [evE] at hv
  obtain ⟨a,h1,h2⟩:=ap1_some hv
  rcases h with h | h
  ·rw [sameE_eq h];exact hF
  ·exact ih h (by rw [h1];rfl)
theorem shed_ok {bs:List Box} {bad:E→Bool}: ∀{F e:E},e∈shed bad F→(evE c env bs F).isSome=true→(evE c env bs e).isSome=true:=by
 have grd: ∀{g x e:E} {w:Bool} {v:AV},e∈(shed bad x).map (.guard g w)→(∀{e},e∈shed bad x→(evE c env bs x).isSome=true→(evE c env bs e).isSome=true)→guardV (evE c env bs g) w (evE c env bs x)=some v→(evE c env bs e).isSome=true:=by
  intro g x e w v he ih hv
  obtain ⟨y,hy,rfl⟩:=List.mem_map.1 he
  simp only [evE]
  rcases guardV_some hv with ⟨h1,h2⟩ | ⟨h1,rfl⟩ | ⟨⟨l,h1⟩,rfl⟩
  ·rw [h1,guardV_yes];exact ih hy (by rw [h2];rfl)
  ·rw [h1,guardV_no];rfl
  ·rw [h1,guardV_tup];rfl
 intro F
 induction F <;> intro e h hF <;> simp only [shed] at h
 case guard g w x ih1 ih2=>
  split at h
  case h_2=>simp only [List.mem_cons,List.not_mem_nil,or_false] at h;rw [h];exact hF
  obtain ⟨v,hv⟩:=Option.isSome_iff_exists.1 hF
  simp only [evE] at hv
  rw [List.mem_append] at h
  rcases h with h | h
  ·refine ih1 h ?_
   rcases guardV_some hv with ⟨h1,h2⟩ | ⟨h1,rfl⟩ | ⟨⟨l,h1⟩,rfl⟩ <;> rw [h1] <;> rfl
  ·split at h
   ·cases h
   ·exact grd h ih2 hv
 case and g x ih1 ih2=>
  split at h
  case h_2=>simp only [List.mem_cons,List.not_mem_nil,or_false] at h;rw [h];exact hF
  obtain ⟨v,hv⟩:=Option.isSome_iff_exists.1 hF
  simp only [evE] at hv
  rw [List.mem_append] at h
  rcases h with h | h
  ·refine ih1 h ?_
   rcases andV_some hv with ⟨h1,h2⟩ | ⟨h1,rfl⟩ <;> rw [h1] <;> rfl
  ·split at h
   ·cases h
   ·rcases andV_some hv with ⟨h1,h2⟩ | ⟨h1,rfl⟩
    ·exact grd (v:=v) h ih2 (by rw [h1,guardV_yes];exact h2)
    ·exact grd (v:= .tup []) h ih2 (by rw [h1];rfl)
 case or g x ih1 ih2=>
  split at h
  case h_2=>simp only [List.mem_cons,List.not_mem_nil,or_false] at h;rw [h];exact hF
  obtain ⟨v,hv⟩:=Option.isSome_iff_exists.1 hF
  simp only [evE] at hv
  rw [List.mem_append] at h
  rcases h with h | h
  ·refine ih1 h ?_
   rcases orV_some hv with ⟨h1,h2⟩ | ⟨h1,rfl⟩ <;> rw [h1] <;> rfl
  ·split at h
   ·cases h
   ·rcases orV_some hv with ⟨h1,h2⟩ | ⟨h1,rfl⟩
    ·exact grd (v:=v) h ih2 (by rw [h1,guardV_yes];exact h2)
    ·exact grd (v:= .tup []) h ih2 (by rw [h1];rfl)
 all_goals
  split at h
  case h_2=>simp only [List.mem_cons,List.not_mem_nil,or_false] at h;rw [h];exact hF
  obtain ⟨v,hv⟩:=Option.isSome_iff_exists.1 hF
  simp only [evE] at hv
  first
   | (simp only [List.not_mem_nil] at h;done)
   | (obtain ⟨a, b, d, h1, h2, h3, h4⟩ := ap3_some hv
      rename_i ih1 ih2 ih3 _ _
      simp only [List.mem_append] at h
      rcases h with h | h | h
      ·exact ih1 h (by rw [h1]; rfl)
      ·exact ih2 h (by rw [h2]; rfl)
      ·exact ih3 h (by rw [h3]; rfl))
   | (obtain ⟨a, b, h1, h2, h3⟩ := ap2_some hv
      rename_i ih1 ih2 _ _
      simp only [List.mem_append] at h
      rcases h with h | h
      ·exact ih1 h (by rw [h1]; rfl)
      ·exact ih2 h (by rw [h2]; rfl))
   | (obtain ⟨a, h1, h2⟩ := ap1_some hv
      rename_i ih _ _
      exact ih h (by rw [h1]; rfl))
theorem shed_good {bad:E→Bool} (hb: ∀g w x,bad (.guard g w x)=(bad g || bad x)): ∀{F e:E},e∈shed bad F→bad e=false:=by
 have grd: ∀{g x e:E} {w:Bool},e∈(match bad g with | true=> [] | false=>(shed bad x).map (E.guard g w))→(∀{e},e∈shed bad x→bad e=false)→bad e=false:=by
  intro g x e w he ih
  split at he
  ·cases he
  ·rename_i hg
   obtain ⟨y,hy,rfl⟩:=List.mem_map.1 he
   rw [hb,hg,ih hy];rfl
 intro F
 induction F <;> intro e h <;> simp only [shed] at h
 case guard g w x ih1 ih2=>
  split at h
  case h_2=>simp only [List.mem_cons,List.not_mem_nil,or_false] at h;rw [h];assumption
  rw [List.mem_append] at h
  rcases h with h | h
  ·exact ih1 h
  ·exact grd h ih2
 case and g x ih1 ih2=>
  split at h
  case h_2=>simp only [List.mem_cons,List.not_mem_nil,or_false] at h;rw [h];assumption
  rw [List.mem_append] at h
  rcases h with h | h
  ·exact ih1 h
  ·exact grd h ih2
 case or g x ih1 ih2=>
  split at h
  case h_2=>simp only [List.mem_cons,List.not_mem_nil,or_false] at h;rw [h];assumption
  rw [List.mem_append] at h
  rcases h with h | h
  ·exact ih1 h
  ·exact grd h ih2
 all_goals
  split at h
  case h_2=>simp only [List.mem_cons,List.not_mem_nil,or_false] at h;rw [h];assumption
  first
   | (simp only [List.not_mem_nil] at h;done)
   | (rename_i ih1 ih2 ih3 _ _
      simp only [List.mem_append] at h
      rcases h with h | h | h
      ·exact ih1 h
      ·exact ih2 h
      ·exact ih3 h)
   | (rename_i ih1 ih2 _ _
      simp only [List.mem_append] at h
      rcases h with h | h
      ·exact ih1 h
      ·exact ih2 h)
   | (rename_i ih _ _
      exact ih h)
end
end Go.Am
namespace Go.Am
theorem aop_E (c:Cfg) (op:Op) (t:Env) (bs:List Box) (id:Nat):aop c op t bs id=aopE c op (ev t) bs id:=by
 cases op <;> rfl
theorem doOp_E (c:Cfg) (cf:CallF) (op:Op) (t:Env) (bs:List Box) (id:Nat):doOp c cf op t bs id=doOpE c cf op (ev t) bs id:=by
 cases op
 case call k=>
  obtain ⟨callee,args,ts⟩:=k
  cases callee <;> rfl
 all_goals rfl
theorem map_congr' {φ ψ:Operand→AV} {l:List Operand} (h: ∀x∈l,φ x=ψ x):l.map φ=l.map ψ:=List.map_congr_left h
theorem partsE_congr {φ ψ:Operand→AV} {l:List (Nat×Operand)} (h: ∀x∈l.map (·.2),φ x=ψ x):(l.map fun p=>(p.1,φ p.2))=l.map fun p=>(p.1,ψ p.2):=
 List.map_congr_left fun p hp=>by rw [h p.2 (List.mem_map_of_mem hp)]
theorem optE_congr {φ ψ:Operand→AV} {x:Option Operand} (h: ∀y∈x.toArray,φ y=ψ y):x.map φ=x.map ψ:=by
 cases x with
 | none=>rfl
 | some x=>simp only [Option.map_some];rw [h x (by simp)]
theorem aopE_congr (c:Cfg) {op:Op} {φ ψ:Operand→AV} (h: ∀x∈op.operands,φ x=ψ x) (bs:List Box) (id:Nat):aopE c op φ bs id=aopE c op ψ bs id:=by
 cases op <;> simp only [Op.operands] at h
 case move x=>simp only [aopE];rw [h x (by simp)]
 case assign x=>simp only [aopE];rw [h x (by simp)]
 case pick x y z=>simp only [aopE];rw [h x (by simp),h y (by simp),h z (by simp)]
 case box e x=>simp only [aopE];rw [h x (by simp)]
 case build ty ps=>simp only [aopE];rw [partsE_congr (fun x hx=>h x (by simpa using hx))]
 case buildSlice ty n ps=>simp only [aopE];rw [partsE_congr (fun x hx=>h x (by simpa using hx))]
 case load ty x=>simp only [aopE];rw [h x (by simp)]
 case store ty x y=>simp only [aopE];rw [h x (by simp),h y (by simp)]
 case nilCheck x=>simp only [aopE];rw [h x (by simp)]
 case makeInterface ty x=>simp only [aopE];rw [h x (by simp)]
 case binOp o ty x y ty'=>simp only [aopE];rw [h x (by simp),h y (by simp)]
 case unOp o ty x=>simp only [aopE];rw [h x (by simp)]
 case convert s d x=>simp only [aopE];rw [h x (by simp)]
 case makeFunc fn first caps=>
  cases fn <;> first
   | rfl
   | (simp only [aopE];rw [map_congr' (fun x hx=>h x (by simp at hx⊢;exact .inl hx)),map_congr' (fun x hx=>h x (by simp at hx⊢;exact .inr hx))])
 case makeSlice ty x y=>simp only [aopE];rw [h x (by simp),h y (by simp)]
 case slice ty x lo hi mx=>
  have h1:=optE_congr (x:=lo) (fun y hy=>h y (by simp only [Array.mem_append];exact .inl (.inl (.inr hy))))
  have h2:=optE_congr (x:=hi) (fun y hy=>h y (by simp only [Array.mem_append];exact .inl (.inr hy)))
  simp only [aopE]
  rw [h x (by simp),h1,h2]
  cases mx with
  | none=>rfl
  | some m=>simp only;rw [h m (by simp)]
 case fieldAddr ty x f=>simp only [aopE];rw [h x (by simp)]
 case field ty x f=>simp only [aopE];rw [h x (by simp)]
 case indexAddr ty x y=>simp only [aopE];rw [h x (by simp),h y (by simp)]
 case index ty x y=>simp only [aopE];rw [h x (by simp),h y (by simp)]
 case extract x i=>simp only [aopE];rw [h x (by simp)]
 case makeMap ty r=>simp only [aopE];rw [optE_congr h]
 case range ty x=>simp only [aopE];rw [h x (by simp)]
 case next x str=>simp only [aopE];rw [h x (by simp)]
 case lookup ty x k ok=>simp only [aopE];rw [h x (by simp),h k (by simp)]
 case mapUpdate ty m k x=>simp only [aopE];rw [h m (by simp),h k (by simp),h x (by simp)]
 case insert ty m k x=>simp only [aopE];rw [h m (by simp),h k (by simp),h x (by simp)]
 case mapEntry ty m k=>simp only [aopE];rw [h m (by simp),h k (by simp)]
 case entryStore ty m s x=>simp only [aopE];rw [h m (by simp),h s (by simp),h x (by simp)]
 case entry x=>simp only [aopE];rw [h x (by simp)]
 case call k=>
  obtain ⟨callee,args,ts⟩:=k
  simp only [aopE]
  rw [map_congr' (fun x hx=>h x (by simp only [Call.operands,Array.mem_append];exact .inr (by simpa using hx)))]
 all_goals rfl
theorem doOpE_congr (c:Cfg) (cf:CallF) {op:Op} {φ ψ:Operand→AV} (h: ∀x∈op.operands,φ x=ψ x) (bs:List Box) (id:Nat):doOpE c cf op φ bs id=doOpE c cf op ψ bs id:=by
 unfold doOpE
 split
 ·rename_i k
  obtain ⟨callee,args,ts⟩:=k
  simp only
  cases callee with
  | value f=>
   simp only
   rw [h f (by simp [Op.operands,Call.operands]),map_congr' (fun x hx=>h x (by simp only [Op.operands,Call.operands,Array.mem_append];exact .inr (by simpa using hx)))]
  | invoke r m=>exact aopE_congr c h bs id
  | builtin b=>exact aopE_congr c h bs id
 ·exact aopE_congr c h bs id
theorem bind1_some {x:Option E} {f:E→E} {e:E} (h:bind1 x f=some e): ∃a,x=some a∧e=f a:=by
 unfold bind1 at h
 cases x with
 | none=>cases h
 | some a=>cases h;exact ⟨a,rfl,rfl⟩
theorem bind2_some {x y:Option E} {f:E→E→E} {e:E} (h:bind2 x y f=some e): ∃a b,x=some a∧y=some b∧e=f a b:=by
 unfold bind2 at h
 split at h
 ·cases h;exact ⟨_,_,rfl,rfl,rfl⟩
 ·cases h
theorem bind3_some {x y z:Option E} {f:E→E→E→E} {e:E} (h:bind3 x y z f=some e): ∃a b d,x=some a∧y=some b∧z=some d∧e=f a b d:=by
 unfold bind3 at h
 split at h
 ·cases h;exact ⟨_,_,_,rfl,rfl,rfl,rfl⟩
 ·cases h
theorem evE_mkPick {c:Cfg} {env:List (Option AV)} {bs:List Box} {p a b:E} {v:AV} (h:evE c env bs (mkPick p a b)=some v):evE c env bs (.pick p a b)=some v:=by
 unfold mkPick at h
 split at h
 ·split at h
  ·rename_i hs
   obtain rfl:=sameE_eq hs
   simp only [evE] at h⊢
   rcases andV_some h with ⟨h1,h2⟩ | ⟨h1,rfl⟩
   ·rw [h1,guardV_yes,h2];rfl
   ·rw [h1];rfl
  ·exact h
 ·split at h
  ·rename_i hs
   obtain rfl:=sameE_eq hs
   simp only [evE] at h⊢
   rcases orV_some h with ⟨h1,h2⟩ | ⟨h1,rfl⟩
   ·rw [h1,guardV_yes,h2];rfl
   ·rw [h1];rfl
  ·exact h
 ·exact h
theorem convert_id {c:Cfg} {s d:Option TI} {x r:AV} {bs:List Box} {i j:Nat} (h:convertA c s d x bs i=some (r,.none)):convertA c s d x bs j=some (r,.none):=by
 unfold convertA at h⊢
 repeat' (first | exact h | (split at h <;> try (cases h;done)))
 all_goals first
  | exact h
  | (simp_all;done)
theorem pure_ok {c:Cfg} {cf:CallF} {env:List (Option AV)} {bs:List Box} {ρ:Operand→Option E} {φ:Operand→AV} (hρ: ∀x e v,ρ x=some e→evE c env bs e=some v→φ x=v) {op:Op} {e:E} {v:AV}
  (h:pureOf c ρ op=some e) (hv:evE c env bs e=some v) (id:Nat):doOpE c cf op φ bs id=some (v,.none):=by
 unfold pureOf at h
 split at h
 ·simp only [doOpE,aopE];rw [hρ _ _ _ h hv]
 ·simp only [doOpE,aopE];rw [hρ _ _ _ h hv]
 ·obtain ⟨a,b,d,h1,h2,h3,rfl⟩:=bind3_some h
  have hv:=evE_mkPick hv
  simp only [evE] at hv
  obtain ⟨x,y,z,k1,k2,k3,k4⟩:=ap3_some hv
  simp only [doOpE,aopE]
  rw [hρ _ _ _ h1 k1,hρ _ _ _ h2 k2,hρ _ _ _ h3 k3];exact out1_some k4
 ·split at h
  ·cases h
  rename_i hq
  obtain ⟨a,b,h1,h2,rfl⟩:=bind2_some h
  simp only [evE] at hv
  obtain ⟨x,y,k1,k2,k3⟩:=ap2_some hv
  simp only [doOpE,aopE,binN,hq]
  rw [hρ _ _ _ h1 k1,hρ _ _ _ h2 k2,k3];rfl
 ·obtain ⟨a,h1,rfl⟩:=bind1_some h
  simp only [evE] at hv
  obtain ⟨x,k1,k2⟩:=ap1_some hv
  simp only [doOpE,aopE]
  rw [hρ _ _ _ h1 k1,k2];rfl
 ·obtain ⟨a,b,h1,h2,rfl⟩:=bind2_some h
  simp only [evE] at hv
  obtain ⟨x,y,k1,k2,k3⟩:=ap2_some hv
  simp only [doOpE,aopE]
  rw [hρ _ _ _ h1 k1,hρ _ _ _ h2 k2];exact out1_some k3
 ·obtain ⟨a,h1,rfl⟩:=bind1_some h
  simp only [evE] at hv
  obtain ⟨x,k1,k2⟩:=ap1_some hv
  simp only [doOpE,aopE]
  rw [hρ _ _ _ h1 k1];exact out1_some k2
 ·obtain ⟨a,h1,rfl⟩:=bind1_some h
  simp only [evE] at hv
  obtain ⟨x,k1,k2⟩:=ap1_some hv
  simp only [doOpE,aopE]
  rw [hρ _ _ _ h1 k1];exact out1_some k2
 ·-- convert
  simp only [doOpE,aopE]
  split at h
  ·rename_i hs hd
   obtain ⟨a,h1,rfl⟩:=bind1_some h
   simp only [evE] at hv
   obtain ⟨x,k1,k2⟩:=ap1_some hv
   rw [hρ _ _ _ h1 k1]
   simp only [Cfg.descOf,Option.map_eq_some_iff] at hs hd
   obtain ⟨i,hi,hi2⟩:=hs
   obtain ⟨j,hj,hj2⟩:=hd
   unfold toInt1 at k2
   split at k2
   ·cases k2;simp only [hi,hj,convertA,hj2]
   ·cases k2
  ·cases h
  ·obtain ⟨a,h1,rfl⟩:=bind1_some h
   simp only [evE] at hv
   obtain ⟨x,k1,k2⟩:=ap1_some hv
   rw [hρ _ _ _ h1 k1];exact convert_id (out1_some k2)
 ·obtain ⟨a,h1,rfl⟩:=bind1_some h
  simp only [evE] at hv
  obtain ⟨x,k1,k2⟩:=ap1_some hv
  simp only [doOpE,aopE]
  rw [hρ _ _ _ h1 k1];exact out1_some k2
 ·obtain ⟨a,h1,rfl⟩:=bind1_some h
  simp only [evE] at hv
  obtain ⟨x,k1,k2⟩:=ap1_some hv
  simp only [doOpE,aopE]
  rw [hρ _ _ _ h1 k1];exact out1_some k2
 ·obtain ⟨a,b,h1,h2,rfl⟩:=bind2_some h
  simp only [evE] at hv
  obtain ⟨x,y,k1,k2,k3⟩:=ap2_some hv
  simp only [doOpE,aopE]
  rw [hρ _ _ _ h1 k1,hρ _ _ _ h2 k2];exact out1_some k3
 ·obtain ⟨a,h1,rfl⟩:=bind1_some h
  simp only [evE] at hv
  obtain ⟨x,k1,k2⟩:=ap1_some hv
  simp only [doOpE,aopE]
  rw [hρ _ _ _ h1 k1];exact out1_some k2
 ·-- slice
  have sl: ∀{x r:AV} {lo hi:Option AV},sliceS x lo hi=some r→slice2A c .string x lo hi bs=some (r,.none):=by
   intro x r lo hi h
   unfold sliceS at h
   split at h
   ·simp only [slice2A]
    split at h
    ·rename_i hh;rw [hh]
     simp only
     split at h
     ·rename_i hl;rw [hl];cases h;rfl
     ·cases h
    ·cases h
   ·cases h
  split at h
  ·rename_i hd
   simp only [Cfg.descOf,Option.map_eq_some_iff] at hd
   obtain ⟨j,hj,hj2⟩:=hd
   simp only [doOpE,aopE,hj,hj2]
   split at h
   ·obtain ⟨a,h1,rfl⟩:=bind1_some h
    simp only [evE] at hv
    obtain ⟨x,k1,k2⟩:=ap1_some hv
    rw [hρ _ _ _ h1 k1];exact sl k2
   ·obtain ⟨a,b,h1,h2,rfl⟩:=bind2_some h
    simp only [evE] at hv
    obtain ⟨x,y,k1,k2,k3⟩:=ap2_some hv
    simp only [Option.map_some,Option.map_none]
    rw [hρ _ _ _ h1 k1,hρ _ _ _ h2 k2];exact sl k3
   ·obtain ⟨a,b,h1,h2,rfl⟩:=bind2_some h
    simp only [evE] at hv
    obtain ⟨x,y,k1,k2,k3⟩:=ap2_some hv
    simp only [Option.map_some,Option.map_none]
    rw [hρ _ _ _ h1 k1,hρ _ _ _ h2 k2];exact sl k3
   ·obtain ⟨a,b,d,h1,h2,h3,rfl⟩:=bind3_some h
    simp only [evE] at hv
    obtain ⟨x,y,z,k1,k2,k3,k4⟩:=ap3_some hv
    simp only [Option.map_some]
    rw [hρ _ _ _ h1 k1,hρ _ _ _ h2 k2,hρ _ _ _ h3 k3];exact sl k4
  ·cases h
 ·-- len
  rename_i k
  obtain ⟨callee,args,ts⟩:=k
  simp only at h
  split at h
  ·rename_i hts hargs
   simp only [doOpE,aopE]
   rw [hts,hargs]
   simp only [List.map_cons,List.map_nil,builtinA]
   split at h
   ·rename_i hd
    simp only [Cfg.descOf,Option.map_eq_some_iff] at hd
    obtain ⟨j,hj,hj2⟩:=hd
    obtain ⟨a,h1,rfl⟩:=bind1_some h
    simp only [evE] at hv
    obtain ⟨x,k1,k2⟩:=ap1_some hv
    rw [hρ _ _ _ h1 k1]
    unfold lenS1 at k2
    split at k2
    ·cases k2;simp only [hj,hj2,lenA]
    ·cases k2
   ·obtain ⟨a,h1,rfl⟩:=bind1_some h
    simp only [evE] at hv
    obtain ⟨x,k1,k2⟩:=ap1_some hv
    rw [hρ _ _ _ h1 k1]
    have:=out1_some k2
    unfold lenT at this
    exact this
  ·cases h
 ·cases h
end Go.Am
namespace Go.Am
section
variable {c:Cfg} {cf:CallF} {base:Nat} {kl:List Nat}
abbrev seen (base:Nat) (kl:List Nat) (bs:List Box):List Box:=killAll (kl.map (base+ ·)) bs
theorem parV_mem {env:List (Option AV)} {bs:List Box}: ∀{l:List (Nat×E)} {vs:List (Nat×AV)},parV c env bs l=some vs→ ∀i e,(i,e)∈l→ ∃v,evE c env bs e=some v∧(i,v)∈vs
 | [],vs,h,i,e,hm=>by cases hm
 | (j,f)::r,vs,h,i,e,hm=>by
  simp only [parV] at h
  split at h
  ·rename_i v hv
   split at h
   ·rename_i l hl
    cases h
    rcases List.mem_cons.1 hm with h1 | h1
    ·cases h1;exact ⟨v,hv,List.mem_cons_self⟩
    ·obtain ⟨u,h2,h3⟩:=parV_mem hl i e h1
     exact ⟨u,h2,List.mem_cons_of_mem _ h3⟩
   ·cases h
  ·cases h
theorem parV_keys {env:List (Option AV)} {bs:List Box}: ∀{l:List (Nat×E)} {vs:List (Nat×AV)},parV c env bs l=some vs→vs.map (·.1)=l.map (·.1)
 | [],vs,h=>by cases h;rfl
 | (j,f)::r,vs,h=>by
  simp only [parV] at h
  split at h
  ·split at h
   ·rename_i l hl
    cases h
    simp only [List.map_cons,parV_keys hl]
   ·cases h
  ·cases h
theorem setAll_length: ∀(vs:List (Nat×AV)) (env:List (Option AV)),(setAll env vs).length=env.length
 | [],_=>rfl
 | (i,v)::r,env=>by simp only [setAll];rw [setAll_length r];simp
theorem setAll_get_ne {k:Nat}: ∀(vs:List (Nat×AV)) (env:List (Option AV)),(∀p∈vs,p.1≠k)→(setAll env vs).getD k none=env.getD k none
 | [],_,_=>rfl
 | (i,v)::r,env,h=>by
  simp only [setAll]
  rw [setAll_get_ne r _ fun p hp=>h p (List.mem_cons_of_mem _ hp)]
  simp only [List.getD_eq_getElem?_getD]
  rw [List.getElem?_set_ne (h (i,v) List.mem_cons_self)]
theorem setAll_get {k:Nat} {v:AV}: ∀(vs:List (Nat×AV)) (env:List (Option AV)),(vs.map (·.1)).Nodup→(k,v)∈vs→k<env.length→(setAll env vs).getD k none=some v
 | [],_,_,h,_=>by cases h
 | (i,u)::r,env,hn,h,hk=>by
  simp only [List.map_cons,List.nodup_cons] at hn
  simp only [setAll]
  rcases List.mem_cons.1 h with h1 | h1
  ·cases h1
   rw [setAll_get_ne r _ fun p hp e=>hn.1 (by rw [←e];exact List.mem_map_of_mem hp)]
   simp [List.getD_eq_getElem?_getD,hk]
  ·exact setAll_get r _ hn.2 h1 (by simpa using hk)
theorem evE_setAll {bs:List Box} {e:E}: ∀(vs:List (Nat×AV)) (env:List (Option AV)),(∀p∈vs,e.looks p.1=false)→evE c (setAll env vs) bs e=evE c env bs e
 | [],_,_=>rfl
 | (i,v)::r,env,h=>by
  simp only [setAll]
  rw [evE_setAll r _ fun p hp=>h p (List.mem_cons_of_mem _ hp)]
  exact evE_set (h (i,v) List.mem_cons_self)
theorem any_or' {α:Type} (l:List α) (f g:α→Bool):(l.any fun p=>f p || g p)=(l.any f || l.any g):=by
 induction l with
 | nil=>rfl
 | cons a l ih=>simp only [List.any_cons,ih];cases f a <;> cases g a <;> cases l.any f <;> rfl
theorem demand_ok: ∀{its:List It} {env:List (Option AV)} {bs:List Box} {r:List (Option AV)×List Box},runIts c cf base kl its env bs=some r→ ∀e∈demand its,(evE c env (seen base kl bs) e).isSome=true
 | [],_,_,_,_,e,he=>by cases he
 | .par l::its,env,bs,r,h,e,he=>by
  simp only [runIts] at h
  split at h
  ·rename_i vs hvs
   simp only [demand,List.mem_append,List.mem_flatMap] at he
   rcases he with he | ⟨f,hf,he⟩
   ·obtain ⟨⟨i,e'⟩,hp,rfl⟩:=List.mem_map.1 he
    obtain ⟨v,hv,_⟩:=parV_mem hvs i e' hp
    show (evE c env (seen base kl bs) e').isSome=true
    rw [hv];rfl
   ·have h1:=demand_ok h f hf
    have h2:=shed_ok he h1
    have h3:=shed_good (bad:=fun e=>l.any fun p=>e.looks p.1) (fun g w x=>by simp only [E.looks];exact any_or' l _ _) he
    rw [evE_setAll vs env (fun p hp=> ?_)] at h2
    ·exact h2
    ·have:p.1∈l.map (·.1):=by rw [←parV_keys hvs];exact List.mem_map_of_mem hp
     obtain ⟨q,hq,hqp⟩:=List.mem_map.1 this
     rw [List.any_eq_false] at h3
     have:=h3 q hq
     rw [hqp] at this
     simpa using this
  ·cases h
 | .eff mask k d g o xs::its,env,bs,r,h,e,he=>by
  simp only [runIts] at h
  have late: ∀{v:AV} {bs':List Box},runIts c cf base kl its (setO env d v) bs'=some r→e∈(demand its).flatMap (shed fun e=>e.reads || looksO d e)→(evE c env (seen base kl bs) e).isSome=true:=by
   intro v bs' h he
   obtain ⟨f,hf,he⟩:=List.mem_flatMap.1 he
   have h1:=demand_ok h f hf
   have h2:=shed_ok he h1
   have h3:=shed_good (bad:=fun e=>e.reads || looksO d e) (fun g w x=>by
    cases d with
    | none=>simp only [E.reads,looksO,Bool.or_false]
    | some i=>simp only [E.reads,looksO,E.looks];cases g.reads <;> cases x.reads <;> cases g.looks i <;> cases x.looks i <;> rfl) he
   simp only [Bool.or_eq_false_iff] at h3
   rw [evE_noread h3.1 (bs':=seen base kl bs)] at h2
   cases d with
   | none=>exact h2
   | some i=>simp only [setO] at h2;rw [evE_set h3.2] at h2;exact h2
  simp only [demand,List.mem_append] at he
  split at h
  ·rename_i hw
   split at h
   ·rename_i vs hvs
    split at h
    ·rcases he with he | he
     ·cases g with
      | none=>
       simp only at he
       obtain ⟨⟨i,e'⟩,hp,rfl⟩:=List.mem_map.1 he
       obtain ⟨v,hv,_⟩:=parV_mem hvs i e' hp
       show (evE c env (seen base kl bs) e').isSome=true
       rw [hv];rfl
      | some q=>
       obtain ⟨x,w⟩:=q
       simp only [wantI,wantV] at hw
       have hx:evE c env (seen base kl bs) x=some (.bool w):=by
        split at hw
        ·rename_i b hb;rw [hb];cases b <;> cases w <;> simp_all
        ·cases hw
        ·cases hw
       simp only [List.mem_cons] at he
       rcases he with rfl | he
       ·rw [hx];rfl
       ·obtain ⟨⟨i,e'⟩,hp,rfl⟩:=List.mem_map.1 he
        obtain ⟨v,hv,_⟩:=parV_mem hvs i e' hp
        simp only [evE]
        rw [hx,guardV_yes,hv];rfl
     ·exact late h he
    ·cases h
   ·cases h
  ·rename_i hw
   rcases he with he | he
   ·cases g with
    | none=>simp [wantI] at hw
    | some q=>
     obtain ⟨x,w⟩:=q
     simp only [wantI,wantV] at hw
     have hx:evE c env (seen base kl bs) x=some (.bool (!w))∨ ∃l,evE c env (seen base kl bs) x=some (.tup l):=by
      split at hw
      ·rename_i b hb;left;rw [hb];cases b <;> cases w <;> simp_all
      ·rename_i l hb;right;exact ⟨l,hb⟩
      ·cases hw
     simp only [List.mem_cons] at he
     rcases he with rfl | he
     ·rcases hx with hx | ⟨l,hx⟩ <;> rw [hx] <;> rfl
     ·obtain ⟨⟨i,e'⟩,hp,rfl⟩:=List.mem_map.1 he
      simp only [evE]
      rcases hx with hx | ⟨l,hx⟩
      ·rw [hx,guardV_no];rfl
      ·rw [hx,guardV_tup];rfl
   ·exact late h he
  ·cases h
theorem lookE_mem {i:Nat} {e:E}: ∀{σ:List (Nat×E)},lookE σ i=some e→(i,e)∈σ
 | [],h=>by cases h
 | (j,f)::r,h=>by
  simp only [lookE] at h
  split at h
  ·rename_i hij;cases h;subst hij;exact List.mem_cons_self
  ·exact List.mem_cons_of_mem _ (lookE_mem h)
theorem lookE_some {i:Nat} {e:E}: ∀{σ:List (Nat×E)},(i,e)∈σ→ ∃f,lookE σ i=some f
 | [],h=>by cases h
 | (j,f)::r,h=>by
  simp only [lookE]
  split
  ·exact ⟨f,rfl⟩
  ·rename_i hij
   rcases List.mem_cons.1 h with h1 | h1
   ·cases h1;exact absurd rfl hij
   ·exact lookE_some h1
def Uniq (σ:List (Nat×E)):Prop:= ∀i e,(i,e)∈σ→lookE σ i=some e
theorem Uniq.filter {σ:List (Nat×E)} (h:Uniq σ) (p:Nat×E→Bool):Uniq (σ.filter p):=fun i e he=>by
 obtain ⟨f,hf⟩:=lookE_some he
 have h1:=h i e (List.mem_filter.1 he).1
 have h2:=h i f (List.mem_filter.1 (lookE_mem hf)).1
 rw [h1] at h2;cases h2;exact hf
theorem Uniq.look {σ:List (Nat×E)} (h:Uniq σ) {p:Nat×E→Bool} {i:Nat} {e:E} (hl:lookE (σ.filter p) i=some e):lookE σ i=some e∧p (i,e)=true:=
 ⟨h i e (List.mem_filter.1 (lookE_mem hl)).1,(List.mem_filter.1 (lookE_mem hl)).2⟩
theorem Uniq.cons {σ:List (Nat×E)} (h:Uniq σ) (d:Nat) (e:E):Uniq ((d,e)::σ.filter fun p=>p.1 !=d):=fun i f hf=>by
 simp only [lookE]
 rcases List.mem_cons.1 hf with h1 | h1
 ·cases h1;rw [if_pos rfl]
 ·have:=(List.mem_filter.1 h1).2
  simp only [bne_iff_ne] at this
  rw [if_neg this]
  exact h.filter _ i f h1
theorem posOf_inj: ∀{keep:List Nat} {i j k:Nat},posOf keep i=some k→posOf keep j=some k→i=j
 | [],_,_,_,h,_=>by cases h
 | x::r,i,j,k,h1,h2=>by
  simp only [posOf] at h1 h2
  split at h1 <;> split at h2
  ·subst_vars;rfl
  ·cases h1;cases hp:posOf r j <;> rw [hp] at h2 <;> cases h2
  ·cases h2;cases hp:posOf r i <;> rw [hp] at h1 <;> cases h1
  ·cases hi:posOf r i with
   | none=>rw [hi] at h1;cases h1
   | some a=>cases hj:posOf r j with
    | none=>rw [hj] at h2;cases h2
    | some b=>
     rw [hi] at h1;rw [hj] at h2
     simp only [Option.map_some,Option.some.injEq] at h1 h2
     exact posOf_inj hi (by rw [hj];congr 1;omega)
theorem posOf_get: ∀{keep:List Nat} {i k:Nat},posOf keep i=some k→keep[k]?=some i
 | [],_,_,h=>by cases h
 | x::r,i,k,h=>by
  simp only [posOf] at h
  split at h
  ·cases h;subst_vars;rfl
  ·cases hi:posOf r i with
   | none=>rw [hi] at h;cases h
   | some a=>rw [hi] at h;cases h;simpa using posOf_get hi
theorem keepOf_mem {keep:List Nat} {σ:List (Nat×E)} {i:Nat} {e:E} (he:lookE σ i=some e): ∀{l:List Nat} {j k0:Nat},l[j]?=some i→(k0+j,e)∈keepOf keep σ l k0
 | [],_,_,h=>by simp at h
 | x::r,0,k0,h=>by simp at h;subst h;simp [keepOf,he]
 | x::r,j+1,k0,h=>by
  have:=keepOf_mem (keep:=keep) he (l:=r) (j:=j) (k0:=k0+1) (by simpa using h)
  rw [show k0+1+j=k0+(j+1) by omega] at this
  simp only [keepOf]
  split
  ·exact List.mem_cons_of_mem _ this
  ·exact this
theorem keepOf_back {keep:List Nat} {σ:List (Nat×E)} {k:Nat} {e:E}: ∀{l:List Nat} {k0:Nat},(k,e)∈keepOf keep σ l k0→ ∃j i,l[j]?=some i∧k=k0+j∧lookE σ i=some e
 | [],_,h=>by cases h
 | x::r,k0,h=>by
  simp only [keepOf] at h
  split at h
  ·rename_i f hf
   rcases List.mem_cons.1 h with h1 | h1
   ·cases h1;exact ⟨0,x,rfl,rfl,hf⟩
   ·obtain ⟨j,i,h2,h3,h4⟩:=keepOf_back h1
    exact ⟨j+1,i,by simpa using h2,by omega,h4⟩
  ·obtain ⟨j,i,h2,h3,h4⟩:=keepOf_back h
   exact ⟨j+1,i,by simpa using h2,by omega,h4⟩
theorem keepOf_nodup {keep:List Nat} {σ:List (Nat×E)}: ∀(l:List Nat) (k0:Nat),((keepOf keep σ l k0).map (·.1)).Nodup
 | [],_=>List.nodup_nil
 | x::r,k0=>by
  simp only [keepOf]
  split
  ·simp only [List.map_cons,List.nodup_cons]
   refine ⟨fun h=> ?_,keepOf_nodup r _⟩
   obtain ⟨⟨k,e⟩,h1,h2⟩:=List.mem_map.1 h
   obtain ⟨j,i,_,h4,_⟩:=keepOf_back h1
   simp only at h2
   omega
  ·exact keepOf_nodup r _
structure RelE (c:Cfg) (keep:List Nat) (nt:Nat) (env:List (Option AV)) (bs:List Box) (σ:List (Nat×E)) (t:Env):Prop where
 len:env.length=keep.length
 has: ∀i,i<nt→t.has i=true
 uniq:Uniq σ
 opn: ∀i e v,lookE σ i=some e→evE c env bs e=some v→t.get .any i=v
 env: ∀i k v,lookE σ i=none→posOf keep i=some k→env.getD k none=some v→t.get .any i=v
variable {keep:List Nat} {nt:Nat} {env:List (Option AV)} {bs:List Box} {σ:List (Nat×E)} {t:Env}
theorem RelE.res (h:RelE c keep nt env bs σ t) {i:Nat} {e:E} {v:AV} (hr:resT keep σ i=some e) (hv:evE c env bs e=some v):t.get .any i=v:=by
 unfold resT at hr
 split at hr
 ·rename_i f hf;cases hr;exact h.opn i _ v hf hv
 ·rename_i hf
  simp only [Option.map_eq_some_iff] at hr
  obtain ⟨k,hk,rfl⟩:=hr
  exact h.env i k v hf hk hv
theorem RelE.resO (h:RelE c keep nt env bs σ t) {x:Operand} {e:E} {v:AV} (hr:resO keep σ x=some e) (hv:evE c env bs e=some v):ev t x=v:=by
 cases x with
 | tmp i=>exact h.res hr hv
 | const u=>cases hr;cases hv;rfl
 | func f=>cases hr;cases hv;rfl
 | global g=>cases hr
theorem RelE.flush (h:RelE c keep nt env bs σ t) {vs:List (Nat×AV)} (hvs:parV c env bs (keepOf keep σ keep 0)=some vs): ∀i k v,posOf keep i=some k→(setAll env vs).getD k none=some v→t.get .any i=v:=by
 intro i k v hk hv
 have hg:=posOf_get hk
 have hlt:k<env.length:=by rw [h.len];exact (List.getElem?_eq_some_iff.1 hg).1
 cases hl:lookE σ i with
 | some e=>
  have hm:=keepOf_mem (keep:=keep) hl (l:=keep) (j:=k) (k0:=0) hg
  rw [Nat.zero_add] at hm
  obtain ⟨u,hu,hum⟩:=parV_mem hvs k e hm
  rw [setAll_get vs env (by rw [parV_keys hvs];exact keepOf_nodup _ _) hum hlt] at hv
  cases hv
  exact h.opn i e _ hl hu
 | none=>
  rw [setAll_get_ne vs env (fun p hp hpk=> ?_)] at hv
  ·exact h.env i k v hl hk hv
  ·have:p.1∈(keepOf keep σ keep 0).map (·.1):=by rw [←parV_keys hvs];exact List.mem_map_of_mem hp
   obtain ⟨⟨k',e⟩,h1,h2⟩:=List.mem_map.1 this
   obtain ⟨j,i',h3,h4,h5⟩:=keepOf_back h1
   simp only at h2
   have:j=k:=by omega
   subst this
   rw [hg] at h3;cases h3
   rw [hl] at h5;cases h5
theorem RelE.flushed (h:RelE c keep nt env bs σ t) {vs:List (Nat×AV)} (hvs:parV c env bs (keepOf keep σ keep 0)=some vs):RelE c keep nt (setAll env vs) bs (dropV keep (keepOf keep σ keep 0) σ) t where
 len:=by rw [setAll_length];exact h.len
 has:=h.has
 uniq:=h.uniq.filter _
 opn:=fun i e v hl hv=>by
  obtain ⟨h1,h2⟩:=h.uniq.look hl
  simp only [Bool.and_eq_true,List.all_eq_true,Bool.not_eq_true'] at h2
  rw [evE_setAll vs env (fun p hp=> ?_)] at hv
  ·exact h.opn i e v h1 hv
  ·have:p.1∈(keepOf keep σ keep 0).map (·.1):=by rw [←parV_keys hvs];exact List.mem_map_of_mem hp
   obtain ⟨q,hq,hqp⟩:=List.mem_map.1 this
   rw [←hqp];exact h2.2 q hq
 env:=fun i k v _ hk hv=>h.flush hvs i k v hk hv
theorem dropV_none {fl:List (Nat×E)} {i k:Nat} (hu:Uniq σ) (hk:posOf keep i=some k):lookE (dropV keep fl σ) i=none:=by
 cases hl:lookE (dropV keep fl σ) i with
 | none=>rfl
 | some e=>
  have h:=(hu.look hl).2
  simp only [hk,Option.isNone_some,Bool.false_and,Bool.false_eq_true] at h
end
end Go.Am
namespace Go.Am
section
variable {c:Cfg} {cf:CallF} {ops:Array Oper}
def step1 (c:Cfg) (cf:CallF) (ops:Array Oper) (id:Nat) (o:Oper) (s:St):Option St:=
 match wantedA ops s.t o.guard with
 | some true=>match doOp c cf o.op s.t s.b id with
  | some (v,e)=>match e.on s.b id with
   | some bs'=>some {t:=putA s.t o.dst v,b:=bs'}
   | .none=> .none
  | .none=> .none
 | some false=>some {t:=putA s.t o.dst (.tup []),b:=s.b}
 | .none=> .none
def stepU (c:Cfg) (cf:CallF) (ops:Array Oper) (dr:Bool) (base i:Nat) (o:Oper) (s:St):Option St:=
 match dr with
 | true=>stepO c cf ops base i o s
 | false=>step1 c cf ops (idOf ops.toList i base) o s
def runU (c:Cfg) (cf:CallF) (ops:Array Oper) (dr:Bool) (base:Nat):List Oper→Nat→St→Option St
 | [],_,s=>some s
 | o::r,i,s=>match stepU c cf ops dr base i o s with
  | some s'=>runU c cf ops dr base r (i+1) s'
  | .none=> .none
theorem runD_U (base:Nat): ∀(l:List Oper) (i:Nat) (s:St),runD c cf ops base l i s=runU c cf ops true base l i s
 | [],_,_=>rfl
 | o::r,i,s=>by
  simp only [runD,runU,stepU]
  cases stepO c cf ops base i o s with
  | none=>rfl
  | some s'=>exact runD_U base r _ _
theorem idOf_succ: ∀(l:List Oper) (i base:Nat) (o:Oper),l[i]?=some o→idOf l (i+1) base=next (idOf l i base) o.op
 | [],i,base,o,h=>by simp at h
 | p::r,0,base,o,h=>by
  simp at h;subst h
  cases r <;> rfl
 | p::r,i+1,base,o,h=>by
  simp at h
  simp only [idOf]
  exact idOf_succ r i _ o h
theorem next_add (b k:Nat) (op:Op):next (b+k) op=b+next k op:=by unfold next;split <;> omega
theorem idOf_add (b:Nat): ∀(l:List Oper) (i k:Nat),idOf l i (b+k)=b+idOf l i k
 | _,0,_=>by cases ‹List Oper› <;> rfl
 | [],_+1,_=>rfl
 | o::r,i+1,k=>by simp only [idOf];rw [next_add];exact idOf_add b r i _
theorem maskIds_add (bf:List Nat) (i b:Nat): ∀(l:List Oper) (j k:Nat),maskIds bf i l j (b+k)=(maskIds bf i l j k).map (b+ ·)
 | [],_,_=>rfl
 | o::r,j,k=>by
  simp only [maskIds]
  split <;> simp only [next_add,maskIds_add bf i b r,List.map_cons]
theorem runOps_U (base:Nat): ∀(l:List Oper) (i:Nat) (t:Env) (bs:List Box),(∀j,l[j]?=ops.toList[i+j]?)→runOps c cf ops l (idOf ops.toList i base) t bs=runU c cf ops false base l i ⟨t,bs⟩
 | [],_,_,_,_=>rfl
 | o::r,i,t,bs,h=>by
  have ho:ops.toList[i]?=some o:=by have:=h 0;rw [Nat.add_zero] at this;rw [←this];rfl
  have hr: ∀j,r[j]?=ops.toList[i+1+j]?:=fun j=>by rw [show i+1+j=i+(j+1) by omega,←h (j+1)];rfl
  simp only [runOps,runU,stepU,step1]
  rw [←idOf_succ _ _ _ _ ho]
  cases wantedA ops t o.guard with
  | none=>rfl
  | some b=>cases b with
   | false=>exact runOps_U base r _ _ _ hr
   | true=>
    simp only
    cases doOp c cf o.op t bs (idOf ops.toList i base) with
    | none=>rfl
    | some p=>
     obtain ⟨v,e⟩:=p
     simp only
     cases e.on bs (idOf ops.toList i base) with
     | none=>rfl
     | some bs'=>exact runOps_U base r _ _ _ hr
theorem killAll_mono {L M:List Nat} (h: ∀x∈M,x∈L) (bs:List Box):Sub (killAll L bs) (killAll M bs):=fun k hk=>by
 simp only [Box.at,List.getD_eq_getElem?_getD] at hk⊢
 rw [killAll_get] at hk
 rw [killAll_get,killAll_get]
 by_cases h1:k∈L∧k<bs.length
 ·rw [if_pos h1] at hk;simp at hk
 ·rw [if_neg h1,if_neg (fun h2=>h1 ⟨h _ h2.1,h2.2⟩)]
variable {base:Nat} {kl:List Nat} {keep:List Nat} {nt:Nat} {env:List (Option AV)} {bs:List Box} {σ:List (Nat×E)} {t:Env}
theorem RelE.want (h:RelE c keep nt env bs σ t) {g:Option (Nat×Bool)} {x:E} {w:Bool} (hg:guardOf ops keep σ g=some (some (x,w))) {u:AV} (hu:evE c env bs x=some u):wantedA ops t g=wantV (some u) w:=by
 unfold guardOf at hg
 split at hg
 ·cases hg
 ·split at hg
  ·cases hg
  ·rename_i d hd
   split at hg
   ·rename_i e he
    cases hg
    simp only [wantedA,hd]
    rw [h.res he hu]
    simp only [wantV]
    cases u <;> rfl
   ·cases hg
theorem want_none {g:Option (Nat×Bool)} (hg:guardOf ops keep σ g=some none):wantedA ops t g=some true:=by
 unfold guardOf at hg
 split at hg
 ·rfl
 ·split at hg
  ·cases hg
  ·split at hg <;> cases hg
theorem has_put (hs: ∀i,i<nt→t.has i=true) (d:Option Nat) (v:AV): ∀i,i<nt→(putA t d v).has i=true:=fun i hi=>by
 cases d with
 | none=>exact hs i hi
 | some j=>simp only [putA];rw [Tr.has_set];exact hs i hi
theorem see_ops {op:Op} {p:Nat} (h:seeTmp op=some p):p∈op.operands.toList.filterMap tmpOf:=by
 refine List.mem_filterMap.2 ⟨.tmp p,?_,rfl⟩
 unfold seeTmp at h
 split at h
 ·rename_i q hq
  cases h
  unfold peekTmp at hq
  split at hq
  ·cases hq;simp [Op.operands]
  ·cases hq;simp [Op.operands]
  ·rename_i args ts
   split at hq
   ·rename_i q2 hq2
    cases hq
    simp only [Op.operands,Call.operands]
    simp [hq2]
   ·cases hq
  ·cases hq
 ·unfold loadTmp at h
  split at h
  ·cases h;simp [Op.operands]
  ·cases h;simp [Op.operands]
  ·cases h
theorem fieldAddr_box {i:Option TI} {x r:AV} {f:Nat} {bs:List Box} {e:Eff} (h:fieldAddrA i x f bs=some (r,e)):boxOf r=boxOf x∧calmK r=calmK x:=by
 unfold fieldAddrA at h
 split at h
 ·split at h
  ·split at h
   ·split at h
    ·cases h
    ·unfold moveA at h
     split at h
     ·cases h;exact ⟨rfl,rfl⟩
     ·split at h
      ·split at h
       ·cases h;exact ⟨rfl,rfl⟩
       ·cases h
      ·cases h
     ·cases h;exact ⟨rfl,rfl⟩
     ·cases h
   ·cases h
  ·cases h
 ·cases h
theorem idxArr_box {c:Cfg} {ty:TypeId} {n:Nat} {el:TypeId} (hd:c.descOf ty=some (.array n el)) {x ix r:AV} {bs:List Box} {e:Eff} (h:indexAddrA c (c.ti ty) x ix bs=some (r,e)):boxOf r=boxOf x∧calmK r=calmK x:=by
 unfold Cfg.descOf at hd
 rw [Option.map_eq_some_iff] at hd
 obtain ⟨i,hi,hd⟩:=hd
 rw [hi] at h
 unfold indexAddrA at h
 split at h
 ·rename_i i' n' _ he
  cases he
  rw [hd] at h
  simp only at h
  split at h
  ·split at h
   ·unfold moveA at h
    split at h
    ·cases h;exact ⟨rfl,rfl⟩
    ·split at h
     ·split at h
      ·cases h;exact ⟨rfl,rfl⟩
      ·cases h
     ·cases h
    ·cases h;exact ⟨rfl,rfl⟩
    ·cases h
   ·cases h
  ·cases h
 ·cases h
theorem baseE_box {c:Cfg} {env:List (Option AV)} {bs:List Box} {b:E}: ∀(a:E) {u:AV},baseE c a b=true→evE c env bs a=some u→ ∃u',evE c env bs b=some u'∧boxOf u=boxOf u'∧calmK u=calmK u':=by
 intro a
 induction a with
 | faddr ty x f ih=>
  intro u h hu
  unfold baseE at h
  rw [Bool.or_eq_true] at h
  rcases h with h | h
  ·rw [←sameE_eq h];exact ⟨u,hu,rfl,rfl⟩
  ·simp only [evE] at hu
   cases hx:evE c env bs x with
   | none=>rw [hx] at hu;cases hu
   | some v=>
    rw [hx] at hu
    simp only [ap1] at hu
    obtain ⟨u',h1,h2,h3⟩:=ih h hx
    cases hf:fieldAddrA (c.ti ty) v f bs with
    | none=>rw [hf] at hu;cases hu
    | some p=>
     obtain ⟨r,e⟩:=p
     rw [hf] at hu
     obtain ⟨k1,k2⟩:=fieldAddr_box hf
     unfold out1 at hu
     split at hu
     ·rename_i heq
      cases heq;cases hu
      exact ⟨u',h1,k1.trans h2,k2.trans h3⟩
     ·cases hu
 | iaddr ty x ix ih _=>
  intro u h hu
  unfold baseE at h
  rw [Bool.or_eq_true] at h
  rcases h with h | h
  ·rw [←sameE_eq h];exact ⟨u,hu,rfl,rfl⟩
  ·rw [Bool.and_eq_true] at h
   obtain ⟨hd,h⟩:=h
   split at hd
   ·rename_i n el hdesc
    simp only [evE] at hu
    cases hx:evE c env bs x with
    | none=>rw [hx] at hu;cases hu
    | some v=>
     rw [hx] at hu
     cases hy:evE c env bs ix with
     | none=>rw [hy] at hu;cases hu
     | some y=>
      rw [hy] at hu
      simp only [ap2] at hu
      obtain ⟨u',h1,h2,h3⟩:=ih h hx
      cases hf:indexAddrA c (c.ti ty) v y bs with
      | none=>rw [hf] at hu;cases hu
      | some p=>
       obtain ⟨r,e⟩:=p
       rw [hf] at hu
       obtain ⟨k1,k2⟩:=idxArr_box hdesc hf
       unfold out1 at hu
       split at hu
       ·rename_i heq
        cases heq;cases hu
        exact ⟨u',h1,k1.trans h2,k2.trans h3⟩
       ·cases hu
   ·cases hd
 | _=>
  intro u h hu
  unfold baseE at h
  simp only [Bool.or_false] at h
  rw [←sameE_eq h]
  exact ⟨u,hu,rfl,rfl⟩
theorem root_eq {c:Cfg} {ops:Array Oper} {j:Nat} {op:Op} {t:Env} (h: ∀p q,seeTmp op=some p→rootTmp ops j p=some q→boxOf (t.get .any p)=boxOf (t.get .any q)∧calmK (t.get .any p)=calmK (t.get .any q)):rootOk c ops j op t=true:=by
 unfold rootOk
 split
 ·rfl
 ·rename_i p hp
  split
  ·rfl
  ·rename_i q hq
   rw [(h p q hp hq).1,(h p q hp hq).2]
   simp
theorem rootE_in (h:RelE c keep nt env bs σ t) {j:Nat} {op:Op} (ha: ∀p,seeTmp op=some p→ ∀e,resT keep σ p=some e→ ∃u,evE c env bs e=some u) {g:Option (E×Bool)} (hgs: ∀x,evE c env bs (stripG g x)=evE c env bs x) (hr:rootE c ops keep g σ true j op=true):rootOk c ops j op t=true:=by
 cases hany:(appAny c ops || growAny ops) with
 | false=>rw [Bool.or_eq_false_iff] at hany;exact root_any hany.1 hany.2
 | true=>
  refine root_eq fun p q hp hq=> ?_
  unfold rootE at hr
  rw [hp,hany] at hr
  simp only [Bool.and_self,hq] at hr
  split at hr
  ·rename_i a b ha' hb
   obtain ⟨u,hu⟩:=ha p hp a ha'
   obtain ⟨u',k1,k2,k3⟩:=baseE_box _ hr ((hgs a).trans hu)
   rw [h.res ha' hu,h.res hb ((hgs b).symm.trans k1)]
   exact ⟨k2,k3⟩
  ·cases hr
theorem rootE_ok (h:RelE c keep nt env bs σ t) {g:Option (E×Bool)} {j:Nat} {op:Op} {e:E} {v:AV} (hp:pureOf c (fun x=>(resO keep σ x).map (stripG g)) op=some e) (hgs: ∀x,evE c env bs (stripG g x)=evE c env bs x) (hv:evE c env bs e=some v) (hr:rootE c ops keep g σ true j op=true):rootOk c ops j op t=true:=by
 refine rootE_in h (fun p hpk a ha=> ?_) hgs hr
 have one: ∀x,((resO keep σ (.tmp p)).map (stripG g))=some x→(∃u,evE c env bs x=some u)→ ∃u,evE c env bs a=some u:=fun x hx ⟨u,hu⟩=>by
  simp only [resO,ha,Option.map_some,Option.some.injEq] at hx
  subst hx
  exact ⟨u,by rw [←hgs];exact hu⟩
 unfold seeTmp at hpk
 split at hpk
 ·rename_i p' hpk'
  cases hpk
  unfold peekTmp at hpk'
  split at hpk'
  ·cases hpk'
   simp only [pureOf,bind1,Option.map_eq_some_iff] at hp
   obtain ⟨x,hx,rfl⟩:=hp
   refine one x (by simpa using hx) ?_
   simp only [evE] at hv
   cases hx2:evE c env bs x with
   | none=>rw [hx2] at hv;cases hv
   | some u=>exact ⟨u,rfl⟩
  ·cases hpk'
   simp only [pureOf,bind1,Option.map_eq_some_iff] at hp
   obtain ⟨x,hx,rfl⟩:=hp
   refine one x (by simpa using hx) ?_
   simp only [evE] at hv
   cases hx2:evE c env bs x with
   | none=>rw [hx2] at hv;cases hv
   | some u=>exact ⟨u,rfl⟩
  ·rename_i args ts
   split at hpk'
   ·rename_i p' hargs
    cases hpk'
    simp only [pureOf,hargs] at hp
    split at hp
    ·rename_i x _ _ hxx
     simp only [List.cons.injEq,and_true] at hxx
     subst hxx
     split at hp
     ·simp only [bind1,Option.map_eq_some_iff] at hp
      obtain ⟨x,hx,rfl⟩:=hp
      refine one x (by simpa using hx) ?_
      simp only [evE] at hv
      cases hx2:evE c env bs x with
      | none=>rw [hx2] at hv;cases hv
      | some u=>exact ⟨u,rfl⟩
     ·simp only [bind1,Option.map_eq_some_iff] at hp
      obtain ⟨x,hx,rfl⟩:=hp
      refine one x (by simpa using hx) ?_
      simp only [evE] at hv
      cases hx2:evE c env bs x with
      | none=>rw [hx2] at hv;cases hv
      | some u=>exact ⟨u,rfl⟩
    ·cases hp
   ·cases hpk'
  ·cases hpk'
 ·unfold loadTmp at hpk
  split at hpk
  ·rename_i hno;simp [peekTmp] at hno
  ·cases hpk
   rename_i ty lo hi _
   simp only [pureOf] at hp
   have fin: ∀x,((resO keep σ (.tmp p)).map (stripG g))=some x→evE c env bs x≠none→ ∃u,evE c env bs a=some u:=fun x hx hne=>by
    refine one x hx ?_
    cases hx2:evE c env bs x with
    | none=>exact absurd hx2 hne
    | some u=>exact ⟨u,rfl⟩
   split at hp
   ·split at hp
    ·simp only [bind1,Option.map_eq_some_iff] at hp
     obtain ⟨x,hx,rfl⟩:=hp
     exact fin x (by simpa using hx) (fun e=>by simp [evE,e,ap1] at hv)
    ·unfold bind2 at hp
     split at hp
     ·rename_i x y hx hy
      cases hp
      exact fin x hx (fun e=>by simp [evE,e,ap2] at hv)
     ·cases hp
    ·unfold bind2 at hp
     split at hp
     ·rename_i x y hx hy
      cases hp
      exact fin x hx (fun e=>by simp [evE,e,ap2] at hv)
     ·cases hp
    ·unfold bind3 at hp
     split at hp
     ·rename_i x y z hx hy hz
      cases hp
      exact fin x hx (fun e=>by simp [evE,e,ap3] at hv)
     ·cases hp
   ·cases hp
  ·cases hpk
theorem stepU_pure {dr:Bool} {i:Nat} {o:Oper} {v:AV} (hw:wantedA ops t o.guard=some true) (hd: ∀(cf:CallF) bs' id,Sub (seen base kl bs) bs'→doOp c cf o.op t bs' id=some (v,.none)) (hk:dr=true→ ∀x∈maskIds (bef ops) i ops.toList 0 0,x∈kl) (hroot:dr=true→rootOk c ops i o.op t=true):
  stepU c cf ops dr base i o ⟨t,bs⟩=some ⟨putA t o.dst v,bs⟩:=by
 cases dr with
 | false=>
  simp only [stepU,step1,hw]
  rw [hd _ _ _ (killAll_sub _ _)]
  rfl
 | true=>
  simp only [stepU,stepO,hw]
  split
  ·rw [hd _ _ _ (killAll_sub _ _)];rfl
  ·rw [hd _ _ _ ?_]
   ·simp only [hroot rfl]
   unfold maskB
   refine killAll_mono (fun x hx=> ?_) bs
   rw [show base=base+0 from rfl,maskIds_add] at hx
   obtain ⟨y,hy,rfl⟩:=List.mem_map.1 hx
   exact List.mem_map_of_mem (hk rfl y hy)
theorem stepU_no {dr:Bool} {i:Nat} {o:Oper} (hw:wantedA ops t o.guard=some false):stepU c cf ops dr base i o ⟨t,bs⟩=some ⟨putA t o.dst (.tup []),bs⟩:=by
 cases dr <;> simp only [stepU,step1,stepO,hw]
theorem look_mem {i:Nat} {v:AV}: ∀{vs:List (Nat×AV)},(∀p∈vs,p.1=i→p.2=v)→(∃p∈vs,p.1=i)→look vs i=v
 | [],_,⟨_,h,_⟩=>by cases h
 | (j,u)::r,h1,⟨p,hp,hpi⟩=>by
  simp only [look]
  split
  ·rename_i hij;exact h1 (j,u) List.mem_cons_self hij.symm
  ·rename_i hij
   refine look_mem (fun q hq=>h1 q (List.mem_cons_of_mem _ hq)) ?_
   rcases List.mem_cons.1 hp with rfl | hp
   ·exact absurd hpi.symm hij
   ·exact ⟨p,hp,hpi⟩
theorem args_ev {g:Option (E×Bool)} (hg: ∀e,evE c env bs (stripG g e)=evE c env bs e): ∀{l:List Nat} {xs:List (Nat×E)} {vs:List (Nat×AV)},argsOf keep σ l=some xs→parV c env bs (xs.map fun p=>(p.1,stripG g p.2))=some vs→ ∀i∈l,∀e,resT keep σ i=some e→ ∃u,evE c env bs e=some u
 | [],_,_,_,_=>fun i hi=>by cases hi
 | i::r,xs,vs,h1,h2=>by
  simp only [argsOf] at h1
  split at h1
  ·rename_i e l he hl
   cases h1
   simp only [List.map_cons,parV] at h2
   split at h2
   ·rename_i v hv
    split at h2
    ·rename_i vs' hvs'
     intro j hj e' he'
     rcases List.mem_cons.1 hj with rfl | hj
     ·rw [he] at he';cases he'
      exact ⟨v,by rw [←hg];exact hv⟩
     ·exact args_ev hg hl hvs' j hj e' he'
    ·cases h2
   ·cases h2
  ·cases h1
theorem RelE.args (h:RelE c keep nt env bs σ t) {g:Option (E×Bool)} (hg: ∀e,evE c env bs (stripG g e)=evE c env bs e): ∀{l:List Nat} {xs:List (Nat×E)} {vs:List (Nat×AV)},argsOf keep σ l=some xs→parV c env bs (xs.map fun p=>(p.1,stripG g p.2))=some vs→(∀p∈vs,p.2=t.get .any p.1)∧ ∀i∈l,∃p∈vs,p.1=i
 | [],xs,vs,h1,h2=>by
  cases h1;cases h2
  exact ⟨fun p hp=>(by cases hp),fun i hi=>by cases hi⟩
 | i::r,xs,vs,h1,h2=>by
  simp only [argsOf] at h1
  split at h1
  ·rename_i e l he hl
   cases h1
   simp only [List.map_cons,parV] at h2
   split at h2
   ·rename_i v hv
    split at h2
    ·rename_i vs' hvs'
     cases h2
     obtain ⟨k1,k2⟩:=RelE.args h hg hl hvs'
     rw [hg] at hv
     refine ⟨fun p hp=> ?_,fun j hj=> ?_⟩
     ·rcases List.mem_cons.1 hp with rfl | hp
      ·exact (h.res he hv).symm
      ·exact k1 p hp
     ·rcases List.mem_cons.1 hj with rfl | hj
      ·exact ⟨_,List.mem_cons_self,rfl⟩
      ·obtain ⟨p,hp,hpi⟩:=k2 j hj
       exact ⟨p,List.mem_cons_of_mem _ hp,hpi⟩
    ·cases h2
   ·cases h2
  ·cases h1
theorem lowOps_ok {dr:Bool} (hk:dr=true→ ∀i,∀x∈maskIds (bef ops) i ops.toList 0 0,x∈kl): ∀(l:List Oper) (i:Nat) (σ:List (Nat×E)) (its:List It) (env:List (Option AV)) (bs:List Box) (t:Env) (env':List (Option AV)) (bs':List Box),
  lowOps c ops keep nt dr l i σ=some its→RelE c keep nt env (seen base kl bs) σ t→runIts c cf base kl its env bs=some (env',bs')→ ∃t',runU c cf ops dr base l i ⟨t,bs⟩=some ⟨t',bs'⟩∧RelE c keep nt env' (seen base kl bs') [] t'
 | [],i,σ,its,env,bs,t,env',bs',hl,hr,hrun=>by
  simp only [lowOps,Option.some.injEq] at hl
  subst hl
  refine ⟨t,?_⟩
  have hu:Uniq ([]:List (Nat×E)):=fun i e h=>by cases h
  unfold parIf at hrun
  split at hrun
  ·rename_i hfl
   simp only [runIts,Option.some.injEq,Prod.mk.injEq] at hrun
   obtain ⟨rfl,rfl⟩:=hrun
   refine ⟨rfl,hr.len,hr.has,hu,fun i e v h=>(by cases h),fun i k v _ hk hv=> ?_⟩
   exact hr.flush (vs:= []) (by rw [hfl];rfl) i k v hk hv
  ·simp only [runIts] at hrun
   split at hrun
   ·rename_i vs hvs
    simp only [Option.some.injEq,Prod.mk.injEq] at hrun
    obtain ⟨rfl,rfl⟩:=hrun
    exact ⟨rfl,by rw [setAll_length];exact hr.len,hr.has,hu,fun i e v h=>(by cases h),fun i k v _ hk hv=>hr.flush hvs i k v hk hv⟩
   ·cases hrun
 | o::r,i,σ,its,env,bs,t,env',bs',hl,hr,hrun=>by
  simp only [lowOps] at hl
  split at hl
  ·cases hl
  ·rename_i g hg
   split at hl
   ·-- an expression
    rename_i e d hpe hdst
    replace hpe:=pureIn_some hpe
    split at hl
    ·rename_i hdnt
     split at hl
     ·rename_i its' hits
      have key:(evE c env (seen base kl bs) (wrapG g e)).isSome=true∧runIts c cf base kl its' env bs=some (env',bs'):=by
       split at hl
       ·rename_i hcov
        cases hl
        refine ⟨?_,hrun⟩
        unfold covered at hcov
        rw [Bool.or_eq_true] at hcov
        rcases hcov with hc | hc
        ·cases hw:wrapG g e <;> rw [hw] at hc <;> simp only [E.sure,Bool.false_eq_true] at hc
         rfl
        ·rw [List.any_eq_true] at hc
         obtain ⟨f,hf,hwf⟩:=hc
         exact evE_within hwf (demand_ok hrun f hf)
       ·cases hl
        simp only [runIts,parV] at hrun
        split at hrun
        ·rename_i vs hvs
         split at hvs
         ·rename_i v hv
          cases hvs
          refine ⟨by unfold seen;rw [hv];rfl,?_⟩
          simp only [setAll] at hrun
          rw [List.set_eq_of_length_le (by rw [hr.len];exact Nat.le_refl _)] at hrun
          exact hrun
         ·cases hvs
        ·cases hrun
      obtain ⟨hsome,hrun⟩:=key
      obtain ⟨v,hv⟩:=Option.isSome_iff_exists.1 hsome
      have hstep:stepU c cf ops dr base i o ⟨t,bs⟩=some ⟨putA t o.dst v,bs⟩:=by
       have pure: ∀(hgs: ∀x,evE c env (seen base kl bs) (stripG g x)=evE c env (seen base kl bs) x) (hev:evE c env (seen base kl bs) e=some v) (cf:CallF) (bs':List Box) (id:Nat),Sub (seen base kl bs) bs'→doOp c cf o.op t bs' id=some (v,.none):=by
        intro hgs hev cf bs' id hs
        refine doOp_sub hs trivial ?_
        rw [doOp_E]
        refine pure_ok (ρ:=fun x=>(resO keep σ x).map (stripG g)) (fun x e v hx hv=> ?_) hpe hev id
        simp only [Option.map_eq_some_iff] at hx
        obtain ⟨e0,h0,rfl⟩:=hx
        rw [hgs] at hv
        exact hr.resO h0 hv
       cases g with
       | none=>exact stepU_pure (want_none hg) (pure (fun _=>rfl) hv) (fun h=>hk h i) (fun h=>by subst h;exact rootE_ok hr (g:=none) hpe (fun _=>rfl) hv (Bool.and_eq_true _ _▸hdnt:_∧_).2)
       | some q=>
        obtain ⟨x,w⟩:=q
        simp only [wrapG,evE] at hv
        rcases guardV_some hv with ⟨h1,h2⟩ | ⟨h1,rfl⟩ | ⟨⟨l,h1⟩,rfl⟩
        ·refine stepU_pure ?_ (pure (fun y=>evE_strip h1 y) h2) (fun h=>hk h i) (fun h=>by subst h;exact rootE_ok hr (g:=some (x,w)) hpe (fun y=>evE_strip h1 y) h2 (Bool.and_eq_true _ _▸hdnt:_∧_).2)
         rw [hr.want hg h1];simp [wantV]
        ·refine stepU_no ?_
         rw [hr.want hg h1];cases w <;> rfl
        ·refine stepU_no ?_
         rw [hr.want hg h1];rfl
      rw [hdst] at hstep
      have hd:t.has d=true:=hr.has d (by have h:=(Bool.and_eq_true _ _▸hdnt:_∧_).1;simpa using h)
      have hrel:RelE c keep nt env (seen base kl bs) ((d,wrapG g e)::σ.filter fun p=>p.1 !=d) (t.set d v):=by
       refine ⟨hr.len,fun i hi=>by rw [Tr.has_set];exact hr.has i hi,hr.uniq.cons _ _,fun j f u hj hu=> ?_,fun j k u hj hk hu=> ?_⟩
       ·simp only [lookE] at hj
        split at hj
        ·rename_i hjd;subst hjd;cases hj
         rw [hv] at hu;cases hu
         exact Tr.get_set_eq _ _ _ hd
        ·rename_i hjd
         rw [Tr.get_set_ne _ _ _ (Ne.symm hjd)]
         exact hr.opn j f u (hr.uniq.look hj).1 hu
       ·simp only [lookE] at hj
        split at hj
        ·cases hj
        ·rename_i hjd
         rw [Tr.get_set_ne _ _ _ (Ne.symm hjd)]
         refine hr.env j k u ?_ hk hu
         cases hlj:lookE σ j with
         | none=>rfl
         | some f=>
          obtain ⟨f',hf'⟩:=lookE_some (σ:=σ.filter fun p=>p.1 !=d) (List.mem_filter.2 ⟨lookE_mem hlj,by simpa using hjd⟩)
          rw [hj] at hf';cases hf'
      obtain ⟨t',h1,h2⟩:=lowOps_ok hk r (i+1) _ _ env bs _ env' bs' hits hrel hrun
      refine ⟨t',?_,h2⟩
      simp only [runU,hstep]
      exact h1
     ·cases hl
    ·cases hl
   ·-- an operation
    split at hl
    ·cases hl
    ·rename_i g' hg'
     split at hl
     ·cases hl
     ·rename_i xs hxs
      split at hl
      ·rename_i hdok
       split at hl
       ·rename_i its' hits
        simp only [Option.some.injEq] at hl
        subst hl
        -- the variables are set
        obtain ⟨vs,hvs,hrun⟩: ∃vs,parV c env (seen base kl bs) (keepOf keep σ keep 0)=some vs∧runIts c cf base kl (.eff (maskOpt c ops dr i o.op) (idOf ops.toList i 0) (posD keep o.dst) g' o.op (xs.map fun p=>(p.1,stripG g' p.2))::its') (setAll env vs) bs=some (env',bs'):=by
         unfold parIf at hrun
         split at hrun
         ·rename_i hfl;exact ⟨[],by rw [hfl];rfl,hrun⟩
         ·rw [runIts] at hrun
          split at hrun
          ·rename_i vs hvs;exact ⟨vs,hvs,hrun⟩
          ·cases hrun
        have hr1:=hr.flushed hvs
        have hall:=hr.flush hvs
        -- what is behind the operation
        have after: ∀(v:AV) (bs2:List Box),stepU c cf ops dr base i o ⟨t,bs⟩=some ⟨putA t o.dst v,bs2⟩→runIts c cf base kl its' (setO (setAll env vs) (posD keep o.dst) v) bs2=some (env',bs')→
          ∃t',runU c cf ops dr base (o::r) i ⟨t,bs⟩=some ⟨t',bs'⟩∧RelE c keep nt env' (seen base kl bs') [] t':=by
         intro v bs2 hstep hrun2
         have hrel:RelE c keep nt (setO (setAll env vs) (posD keep o.dst) v) (seen base kl bs2) (dropD keep o.dst (dropV keep (keepOf keep σ keep 0) σ)) (putA t o.dst v):=by
          refine ⟨?_,has_put hr.has _ _,hr1.uniq.filter _,fun j f u hj hu=> ?_,fun j k u hj hk hu=> ?_⟩
          ·have:=hr1.len
           cases posD keep o.dst with
           | none=>exact this
           | some p=>simp only [setO,List.length_set];exact this
          ·obtain ⟨h1,h2⟩:=hr1.uniq.look hj
           simp only [Bool.and_eq_true,Bool.not_eq_true'] at h2
           rw [evE_noread h2.1 (bs':=seen base kl bs)] at hu
           cases hd:o.dst with
           | none=>
            rw [hd] at hu
            exact hr1.opn j f u h1 hu
           | some d=>
            rw [hd] at hu h2
            simp only [Bool.and_eq_true,bne_iff_ne] at h2
            simp only [putA]
            rw [Tr.get_set_ne _ _ _ (Ne.symm h2.2.1)]
            refine hr1.opn j f u h1 ?_
            simp only [posD] at hu
            cases hp:posOf keep d with
            | none=>rw [hp] at hu;exact hu
            | some p=>
             rw [hp] at hu h2
             simp only [setO] at hu
             rw [evE_set (by simpa using h2.2.2)] at hu
             exact hu
          ·cases hd:o.dst with
           | none=>
            rw [hd] at hu
            exact hall j k u hk hu
           | some d=>
            rw [hd] at hu
            have hdn:d<nt:=by have hdok0:=(Bool.and_eq_true _ _▸hdok:_∧_).1;have hdok1:=(Bool.and_eq_true _ _▸hdok0:_∧_).1;rw [hd] at hdok1;simpa [dstOk] using hdok1
            simp only [putA]
            by_cases hjd:j=d
            ·subst hjd
             simp only [posD,hk,setO] at hu
             have hlt:k<(setAll env vs).length:=by rw [hr1.len];exact (List.getElem?_eq_some_iff.1 (posOf_get hk)).1
             simp [List.getD_eq_getElem?_getD,hlt] at hu
             subst hu
             exact Tr.get_set_eq _ _ _ (hr.has j hdn)
            ·rw [Tr.get_set_ne _ _ _ (Ne.symm hjd)]
             refine hall j k u hk ?_
             simp only [posD] at hu
             cases hp:posOf keep d with
             | none=>rw [hp] at hu;exact hu
             | some p=>
              rw [hp] at hu
              simp only [setO] at hu
              have:p≠k:=fun e=>hjd (posOf_inj hk (e▸hp))
              simp only [List.getD_eq_getElem?_getD] at hu⊢
              rw [List.getElem?_set_ne this] at hu
              exact hu
         obtain ⟨t',h1,h2⟩:=lowOps_ok hk r (i+1) _ _ _ bs2 _ env' bs' hits hrel hrun2
         refine ⟨t',?_,h2⟩
         simp only [runU,hstep]
         exact h1
        simp only [runIts] at hrun
        split at hrun
        ·-- it is wanted
         rename_i hw
         have hwant:wantedA ops t o.guard=some true∧ ∀e,evE c (setAll env vs) (seen base kl bs) (stripG g' e)=evE c (setAll env vs) (seen base kl bs) e:=by
          cases g' with
          | none=>exact ⟨want_none hg',fun _=>rfl⟩
          | some q=>
           obtain ⟨x,w⟩:=q
           simp only [wantI] at hw
           cases hx:evE c (setAll env vs) (seen base kl bs) x with
           | none=>rw [hx] at hw;cases hw
           | some u=>
            rw [hx] at hw
            refine ⟨by rw [hr1.want hg' hx];exact hw,fun e=> ?_⟩
            simp only [wantV] at hw
            split at hw
            ·rename_i b hb
             cases hb
             have:b=w:=by simpa using hw
             subst this
             exact evE_strip hx e
            ·cases hw
            ·cases hw
         split at hrun
         ·rename_i vs' hvs'
          obtain ⟨k1,k2⟩:=hr1.args hwant.2 hxs hvs'
          have hops: ∀x∈o.op.operands,opv vs' x=ev t x:=by
           intro x hx
           cases x with
           | tmp j=>
            refine look_mem (fun p hp hpj=>by rw [k1 p hp,hpj];rfl) (k2 j (List.mem_append_left _ ?_))
            exact List.mem_filterMap.2 ⟨.tmp j,by simpa using hx,rfl⟩
           | const u=>rfl
           | func f=>rfl
           | global g=>rfl
          have hdo: ∀(cf:CallF) bs3 id,doOpE c cf o.op (opv vs') bs3 id=doOp c cf o.op t bs3 id:=fun cf bs3 id=>by rw [doOp_E];exact doOpE_congr c cf hops bs3 id
          have hid:base+idOf ops.toList i 0=idOf ops.toList i base:=by rw [←idOf_add];rfl
          split at hrun
          ·rename_i v bs2 heff
           refine after v bs2 ?_ hrun
           unfold effI at heff
           split at heff
           ·rename_i hm
            rw [hdo,hid] at heff
            unfold hardI at heff
            have hm':dr=true→alone ops i=true:=fun h=>by
             subst h
             unfold maskOpt at hm
             split at hm
             ·cases hm
             ·rename_i ha;simpa using ha
            split at heff
            ·rename_i v' e hdoe
             split at heff
             ·rename_i bs3 hon
              cases heff
              cases dr with
              | false=>simp only [stepU,step1,hwant.1,hdoe,hon]
              | true=>simp only [stepU,stepO,hwant.1,hm' rfl,hdoe,hon]
             ·cases heff
            ·cases heff
           ·rename_i ms hm
            unfold maskOpt at hm
            split at hm
            ·rename_i ha
             simp only [Bool.and_eq_true,Bool.not_eq_true'] at ha
             cases hm
             simp only [List.tail_cons,List.headD_cons] at heff
             rw [mode_app] at heff
             rw [hdo,hid] at heff
             have hmask:killAll ((maskIds (bef ops) i ops.toList 0 0).map (base+ ·)) bs=maskB ops base i bs:=by
              unfold maskB
              rw [←maskIds_add];rfl
             rw [hmask] at heff
             rw [ha.1]
             have hrt:rootOk c ops i o.op t=true:=by
              have h2:=(Bool.and_eq_true _ _▸hdok:_∧_).2
              rw [ha.1] at h2
              exact rootE_in hr1 (fun p hp=>args_ev hwant.2 hxs hvs' p (List.mem_append_left _ (see_ops hp))) hwant.2 h2
             unfold softI at heff
             split at heff
             ·rename_i v' hdoe
              cases heff
              simp only [stepU,stepO,hwant.1,ha.2,hdoe,hrt]
             ·rename_i v' x hdoe
              split at heff
              ·rename_i hask
               split at heff
               ·rename_i hdead
                cases heff
                simp only [stepU,stepO,hwant.1,ha.2,hdoe,hask,hdead]
               ·cases heff
              ·cases heff
             ·rename_i v' kk ty cs hdoe
              split at heff
              ·rename_i hcalm
               cases heff
               rw [Bool.and_eq_true] at hcalm
               have hcond:(dr&& !alone ops i&&isStore o.op)=true:=by rw [ha.1,ha.2,hcalm.1];rfl
               have hcond2:(dr&& !alone ops i&&(isStore o.op || (isGrow o.op&&storeOk ops i o.op)))=true:=by rw [ha.1,ha.2,hcalm.1];rfl
               have hfit:storeOk ops i o.op=true:=by
                have hdok0:=(Bool.and_eq_true _ _▸hdok:_∧_).1
                have h2:=(Bool.and_eq_true _ _▸hdok0:_∧_).2
                unfold fitOk at h2
                rw [hcond] at h2
                exact h2
               have hnear:nearTs c ops dr i o.op=nears ops i:=by unfold nearTs;rw [hcond2]
               have hall2:((nears ops i).all fun p=>calmV kk (t.get .any p))=true:=by
                rw [List.all_eq_true]
                intro p hp
                obtain ⟨q,hq,hqp⟩:=k2 p (List.mem_append_right _ (by rw [hnear];exact hp))
                have h3:=hcalm.2
                unfold calmI at h3
                rw [List.all_eq_true] at h3
                have h4:=h3 q hq
                rw [k1 q hq,hqp,nears_out hfit hp,Bool.false_or] at h4
                exact h4
               simp only [stepU,stepO,hwant.1,ha.2,hdoe,hfit,okBox,hcalm.1,hrt,hall2,Bool.and_self]
              ·cases heff
             ·rename_i v' kk sh sz es hdoe
              split at heff
              ·rename_i hcalm
               cases heff
               rw [Bool.and_eq_true] at hcalm
               have hgr:(isGrow o.op&&storeOk ops i o.op)=true:=by
                have h1:=hcalm.1
                rw [mode_grow] at h1
                exact h1
               have hfit:storeOk ops i o.op=true:=(Bool.and_eq_true _ _▸hgr:_∧_).2
               have hgrow:isGrow o.op=true:=(Bool.and_eq_true _ _▸hgr:_∧_).1
               have hcond2:(dr&& !alone ops i&&(isStore o.op || (isGrow o.op&&storeOk ops i o.op)))=true:=by rw [ha.1,ha.2,hgr];simp
               have hnear:nearTs c ops dr i o.op=nears ops i:=by unfold nearTs;rw [hcond2]
               have hall2:((nears ops i).all fun p=>calmV kk (t.get .any p))=true:=by
                rw [List.all_eq_true]
                intro p hp
                obtain ⟨q,hq,hqp⟩:=k2 p (List.mem_append_right _ (by rw [hnear];exact hp))
                have h3:=hcalm.2
                unfold calmI at h3
                rw [List.all_eq_true] at h3
                have h4:=h3 q hq
                rw [k1 q hq,hqp,nears_out hfit hp,Bool.false_or] at h4
                exact h4
               simp only [stepU,stepO,hwant.1,ha.2,hdoe,hfit,okBox,hgrow,hrt,hall2,Bool.and_self]
              ·cases heff
             ·rename_i v' bx hdoe
              split at heff
              ·rename_i hcalm
               cases heff
               rw [Bool.and_eq_true,mode_app] at hcalm
               have hap:=hcalm.1
               have hcv:isCallV o.op=true:=by
                have h1:=hap
                simp only [appOk,Bool.and_eq_true] at h1
                exact own_call h1.1.1
               obtain ⟨hns,hng⟩:=callv_not hcv
               have hnear:nearTs c ops dr i o.op=peeks ops i:=by
                unfold nearTs
                rw [hns,hng,ha.1,ha.2,look_app hap]
                rfl
               have hall2:((peeks ops i).all fun p=>lowV bs.length (t.get .any p))=true:=by
                rw [List.all_eq_true]
                intro p hp
                obtain ⟨q,hq,hqp⟩:=k2 p (List.mem_append_right _ (by rw [hnear];exact hp))
                have h3:=hcalm.2
                rw [List.all_eq_true] at h3
                have h4:=h3 q hq
                rw [k1 q hq,hqp] at h4
                exact h4
               rw [hap] at hdoe
               simp only [stepU,stepO,hwant.1,ha.2,hap,hdoe,hall2,Bool.and_self]
              ·cases heff
             ·rename_i v' kk hdoe
              split at heff
              ·rename_i hcalm
               cases heff
               rw [Bool.and_eq_true] at hcalm
               obtain ⟨hap,hea⟩:=mode_eat hcalm.1
               have hea2:=hea
               simp only [eatOk,Bool.and_eq_true] at hea2
               have hcv:isCallV o.op=true:=by
                cases hc:isCallV o.op with
                | true=>rfl
                | false=>have h1:=hea2.1.1;rw [eat_not hc] at h1;cases h1
               obtain ⟨hns,hng⟩:=callv_not hcv
               have hnear:nearTs c ops dr i o.op=peeks ops i:=by
                unfold nearTs
                rw [hns,hng,ha.1,ha.2,look_eat hea]
                rfl
               have hall2:((peeks ops i).all fun p=>offV kk (t.get .any p))=true:=by
                rw [List.all_eq_true]
                intro p hp
                obtain ⟨q,hq,hqp⟩:=k2 p (List.mem_append_right _ (by rw [hnear];exact hp))
                have h3:=hcalm.2
                rw [List.all_eq_true] at h3
                have h4:=h3 q hq
                have h5:=hea2.2
                rw [List.all_eq_true] at h5
                have h6:=(Bool.and_eq_true _ _▸h5 p hp:_∧_).2
                rw [Bool.not_eq_true'] at h6
                rw [k1 q hq,hqp,h6,Bool.false_or] at h4
                exact h4
               simp only [stepU,stepO,hwant.1,ha.2,hdoe,hea,hall2,Bool.and_self]
              ·cases heff
             ·cases heff
            ·cases hm
          ·cases hrun
         ·cases hrun
        ·-- it is not
         rename_i hw
         refine after (.tup []) bs (stepU_no ?_) hrun
         cases g' with
         | none=>simp [wantI] at hw
         | some q=>
          obtain ⟨x,w⟩:=q
          simp only [wantI] at hw
          cases hx:evE c (setAll env vs) (seen base kl bs) x with
          | none=>rw [hx] at hw;cases hw
          | some u=>rw [hx] at hw;rw [hr1.want hg' hx];exact hw
        ·cases hrun
       ·cases hl
      ·cases hl
end
end Go.Am
