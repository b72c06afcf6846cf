/- What expressions ask, and what they hang on. -/
import Derived.Test.YtfgbpngakkhdcaaGreatDoorAmIr
open Array renaming mem_append->ab5
open Bool renaming and_eq_true->abj,and_self->abB,false_eq_true->aav,false_or->abE,not_eq_true'->aax,or_eq_false_iff->ab6,or_eq_true->abq,or_false->ab7
open List renaming all_eq_true->abH,getD_eq_getElem?_getD->aaE,getElem?_eq_some_iff->ab8,getElem?_set_ne->aaG,map_congr_left->ab9,map_cons->aaM,mem_append->abN,mem_append_left->aca,mem_append_right->acb,mem_cons->aaQ,mem_cons_of_mem->abO,mem_cons_self->aaR,mem_filter->abP,mem_filterMap->abQ,mem_flatMap->acd,mem_map->aaS,mem_map_of_mem->ace,nodup_cons->aaU,not_mem_nil->acf
open Option renaming isSome_iff_exists->abU,map_eq_some_iff->abV,map_none->acg,map_some->aa1
set_option linter.all false
namespace Go.Am
theorem CW: ∀{a b:List UInt8},G0 a b=true->a=b
 | [], [],_=>rfl
 | [],_::_,h=>by cases h
 | _::_, [],h=>by cases h
 | a::l,b::m,h=>by
  simp only [G0,abj,beq_iff_eq] at h;rw [h.1,CW h.2]
theorem Ig: ∀{a b:AV},Ff a b=true->a=b:=by
 intro a b h;unfold Ff at h;split at h
 ·simp only [abj,beq_iff_eq] at h;rw [h.1,h.2]
 ·rw [beq_iff_eq] at h;rw [h]
 ·rw [CW h]
 ·rfl
 ·cases h
theorem cD: ∀{a b:E},aS a b=true->a=b:=by
 intro a
 induction a <;> intro b h <;> cases b <;> simp only [aS,abj,beq_iff_eq,aav] at h
 case cst.cst=>rw [Ig h]
 case var.var=>rw [h]
 case bin.bin ih1 ih2 _ _ _ _=>obtain ⟨⟨⟨rfl,rfl⟩,h1⟩,h2⟩:=h;rw [ih1 h1,ih2 h2]
 case un.un ih _ _=>obtain ⟨rfl,h1⟩:=h;rw [ih h1]
 case pick.pick ih1 ih2 ih3 _ _ _=>obtain ⟨⟨h1,h2⟩,h3⟩:=h;rw [ih1 h1,ih2 h2,ih3 h3]
 case guard.guard ih1 ih2 _ _ _=>obtain ⟨⟨h1,rfl⟩,h3⟩:=h;rw [ih1 h1,ih2 h3]
 case and.and ih1 ih2 _ _=>rw [ih1 h.1,ih2 h.2]
 case or.or ih1 ih2 _ _=>rw [ih1 h.1,ih2 h.2]
 case index.index ih1 ih2 _ _ _=>obtain ⟨⟨rfl,h1⟩,h2⟩:=h;rw [ih1 h1,ih2 h2]
 case field.field ih _ _ _=>obtain ⟨⟨rfl,h1⟩,rfl⟩:=h;rw [ih h1]
 case extract.extract ih _ _=>obtain ⟨h1,rfl⟩:=h;rw [ih h1]
 case conv.conv ih _ _ _=>obtain ⟨⟨rfl,rfl⟩,h1⟩:=h;rw [ih h1]
 case toInt.toInt ih _ _=>obtain ⟨rfl,h1⟩:=h;rw [ih h1]
 case len.len ih _ _=>obtain ⟨rfl,h1⟩:=h;rw [ih h1]
 case lenS.lenS ih _=>rw [ih h]
 case slA.slA ih _=>rw [ih h]
 case slL.slL ih1 ih2 _ _=>rw [ih1 h.1,ih2 h.2]
 case slH.slH ih1 ih2 _ _=>rw [ih1 h.1,ih2 h.2]
 case slB.slB ih1 ih2 ih3 _ _ _=>rw [ih1 h.1.1,ih2 h.1.2,ih3 h.2]
 case load.load ih _ _=>obtain ⟨rfl,h1⟩:=h;rw [ih h1]
 case faddr.faddr ih _ _ _=>obtain ⟨⟨rfl,h1⟩,rfl⟩:=h;rw [ih h1]
 case iaddr.iaddr ih1 ih2 _ _ _=>obtain ⟨⟨rfl,h1⟩,h2⟩:=h;rw [ih1 h1,ih2 h2]
 case nilck.nilck ih _=>rw [ih h]
theorem eL {o:Out} {v:AV} (h:rN o=some v):o=some (v,.none):=by
 unfold rN at h;split at h
 ·cases h;rfl
 ·cases h
theorem ec {x:Option AV} {f:AV->Option AV} {v:AV} (h:Fe x f=some v): ∃a,x=some a∧f a=some v:=by
 cases x with
 | none=>cases h
 | some a=>exact ⟨a,rfl,h⟩
theorem fh {x y:Option AV} {f:AV->AV->Option AV} {v:AV} (h:GX x y f=some v): ∃a b,x=some a∧y=some b∧f a b=some v:=by
 cases x with
 | none=>cases h
 | some a=>cases y with
  | none=>cases h
  | some b=>exact ⟨a,b,rfl,rfl,h⟩
theorem nZ {x y z:Option AV} {f:AV->AV->AV->Option AV} {v:AV} (h:My x y z f=some v): ∃a b d,x=some a∧y=some b∧z=some d∧f a b d=some v:=by
 cases x with
 | none=>cases h
 | some a=>cases y with
  | none=>cases h
  | some b=>cases z with
   | none=>cases h
   | some d=>exact ⟨a,b,d,rfl,rfl,rfl,h⟩
theorem iN {g e:Option AV} {w:Bool} {v:AV} (h:mG g w e=some v):(g=some (.bool w)∧e=some v)∨(g=some (.bool (!w))∧v= .aL [])∨(∃l,g=some (.aL l))∧v= .aL []:=by
 unfold mG at h;split at h
 ·rename_i b;split at h
  ·rename_i hb;rw [beq_iff_eq] at hb;subst hb;exact .inl ⟨rfl,h⟩
  ·rename_i hb;cases h;refine .inr (.inl ⟨?_,rfl⟩);cases b <;> cases w <;> simp_all
 ·cases h;exact .inr (.inr ⟨⟨_,rfl⟩,rfl⟩)
 ·cases h
theorem fX (w:Bool) (e:Option AV):mG (some (.bool w)) w e=e:=by simp [mG]
theorem tq (w:Bool) (e:Option AV):mG (some (.bool (!w))) w e=some (.aL []):=by cases w <;> rfl
theorem mM (w:Bool) (l:List AV) (e:Option AV):mG (some (.aL l)) w e=some (.aL []):=rfl
theorem lM {p b:Option AV} {v:AV} (h:H9 p b=some v):(p=some (.bool true)∧b=some v)∨(p=some (.bool false)∧v= .bool false):=by
 unfold H9 at h;split at h
 ·exact .inl ⟨rfl,h⟩
 ·cases h;exact .inr ⟨rfl,rfl⟩
 ·cases h
theorem n9 {p b:Option AV} {v:AV} (h:Te p b=some v):(p=some (.bool false)∧b=some v)∨(p=some (.bool true)∧v= .bool true):=by
 unfold Te at h;split at h
 ·cases h;exact .inr ⟨rfl,rfl⟩
 ·exact .inl ⟨rfl,h⟩
 ·cases h
section
variable {c:av} {env:List (Option AV)}
theorem wY {bs bs':List ad}: ∀{e:E},e.reads=false->bF c env bs e=bF c env bs' e:=by
 intro e
 induction e <;> intro h <;> simp only [E.reads,ab6,Bool.true_eq_false] at h <;> simp only [bF]
 case bin ih1 ih2=>rw [ih1 h.1,ih2 h.2]
 case un ih=>rw [ih h]
 case pick ih1 ih2 ih3=>rw [ih1 h.1.1,ih2 h.1.2,ih3 h.2]
 case guard ih1 ih2=>rw [ih1 h.1,ih2 h.2]
 case and ih1 ih2=>rw [ih1 h.1,ih2 h.2]
 case or ih1 ih2=>rw [ih1 h.1,ih2 h.2]
 case index ih1 ih2=>rw [ih1 h.1,ih2 h.2]
 case field ih=>rw [ih h]
 case extract ih=>rw [ih h]
 case toInt ih=>rw [ih h]
 case lenS ih=>rw [ih h]
 case slA ih=>rw [ih h]
 case slL ih1 ih2=>rw [ih1 h.1,ih2 h.2]
 case slH ih1 ih2=>rw [ih1 h.1,ih2 h.2]
 case slB ih1 ih2 ih3=>rw [ih1 h.1.1,ih2 h.1.2,ih3 h.2]
 case nilck ih=>rw [ih h]
theorem AW {bs:List ad} {k:Nat} {x:Option AV}: ∀{e:E},e.looks k=false->bF c (env.set k x) bs e=bF c env bs e:=by
 intro e
 induction e <;> intro h <;> simp only [E.looks,ab6,beq_eq_false_iff_ne,ne_eq] at h <;> simp only [bF]
 case var i=>simp only [lK,aaE,aaG h]
 case bin ih1 ih2=>rw [ih1 h.1,ih2 h.2]
 case un ih=>rw [ih h]
 case pick ih1 ih2 ih3=>rw [ih1 h.1.1,ih2 h.1.2,ih3 h.2]
 case guard ih1 ih2=>rw [ih1 h.1,ih2 h.2]
 case and ih1 ih2=>rw [ih1 h.1,ih2 h.2]
 case or ih1 ih2=>rw [ih1 h.1,ih2 h.2]
 case index ih1 ih2=>rw [ih1 h.1,ih2 h.2]
 case field ih=>rw [ih h]
 case extract ih=>rw [ih h]
 case conv ih=>rw [ih h]
 case toInt ih=>rw [ih h]
 case len ih=>rw [ih h]
 case lenS ih=>rw [ih h]
 case slA ih=>rw [ih h]
 case slL ih1 ih2=>rw [ih1 h.1,ih2 h.2]
 case slH ih1 ih2=>rw [ih1 h.1,ih2 h.2]
 case slB ih1 ih2 ih3=>rw [ih1 h.1.1,ih2 h.1.2,ih3 h.2]
 case load ih=>rw [ih h]
 case faddr ih=>rw [ih h]
 case iaddr ih1 ih2=>rw [ih1 h.1,ih2 h.2]
 case nilck ih=>rw [ih h]
theorem jx {bs:List ad} {g:E} {w:Bool} (hg:bF c env bs g=some (.bool w)): ∀(e:E),bF c env bs (bE g w e)=bF c env bs e:=by
 intro e
 induction e <;> simp only [bE]
 case guard x v y ih1 ih2=>
  split
  ·rename_i h;simp only [abj,beq_iff_eq] at h;obtain ⟨h1,rfl⟩:=h;obtain rfl:=cD h1;rw [ih2];simp only [bF];rw [hg,fX]
  ·simp only [bF];rw [ih1,ih2]
 all_goals simp only [bF, *]
theorem mN {bs:List ad} {g:E} {w:Bool} (hg:bF c env bs g=some (.bool (!w))∨ ∃l,bF c env bs g=some (.aL l)): ∀{e:E},oY g w e=true->bF c env bs e=some (.aL []):=by
 intro e
 induction e <;> intro h <;> simp only [oY,aav] at h
 case guard x v y ih1 ih2=>
  simp only [abq,abj,beq_iff_eq] at h;simp only [bF];rcases h with ⟨h1,rfl⟩ | h1
  ·obtain rfl:=cD h1;rcases hg with hg | ⟨l,hg⟩
   ·rw [hg,tq]
   ·rw [hg,mM]
  ·rw [ih1 h1,mM]
theorem Fj {bs:List ad}: ∀{F e:E},e.within F=true->(bF c env bs F).isSome=true->(bF c env bs e).isSome=true:=by
 intro F
 induction F <;> intro e h hF <;> simp only [E.within,abq,abj] at h
 case var=>rw [cD h];exact hF
 case cst=>rw [cD h];exact hF
 case guard g w x ih1 ih2=>
  rcases h with (h | h) | ⟨h1,h2⟩
  ·rw [cD h];exact hF
  ·obtain ⟨v,hv⟩:=abU.1 hF;refine ih1 h ?_;simp only [bF] at hv;rcases iN hv with ⟨h1,h2⟩ | ⟨h1,rfl⟩ | ⟨⟨l,h1⟩,rfl⟩ <;> rw [h1] <;> rfl
  ·obtain ⟨v,hv⟩:=abU.1 hF;simp only [bF] at hv;rcases iN hv with ⟨h3,h4⟩ | ⟨h3,rfl⟩ | ⟨h3,rfl⟩
   ·rw [<-jx h3];exact ih2 h2 (by rw [h4];rfl)
   ·rw [mN (.inl h3) h1];rfl
   ·rw [mN (.inr h3) h1];rfl
 case and g x ih1 ih2=>
  rcases h with (h | h) | ⟨h1,h2⟩
  ·rw [cD h];exact hF
  ·obtain ⟨v,hv⟩:=abU.1 hF;refine ih1 h ?_;simp only [bF] at hv;rcases lM hv with ⟨h1,h2⟩ | ⟨h1,rfl⟩ <;> rw [h1] <;> rfl
  ·obtain ⟨v,hv⟩:=abU.1 hF;simp only [bF] at hv;rcases lM hv with ⟨h3,h4⟩ | ⟨h3,rfl⟩
   ·rw [<-jx h3];exact ih2 h2 (by rw [h4];rfl)
   ·rw [mN (.inl h3) h1];rfl
 case or g x ih1 ih2=>
  rcases h with (h | h) | ⟨h1,h2⟩
  ·rw [cD h];exact hF
  ·obtain ⟨v,hv⟩:=abU.1 hF;refine ih1 h ?_;simp only [bF] at hv;rcases n9 hv with ⟨h1,h2⟩ | ⟨h1,rfl⟩ <;> rw [h1] <;> rfl
  ·obtain ⟨v,hv⟩:=abU.1 hF;simp only [bF] at hv;rcases n9 hv with ⟨h3,h4⟩ | ⟨h3,rfl⟩
   ·rw [<-jx h3];exact ih2 h2 (by rw [h4];rfl)
   ·rw [mN (.inl h3) h1];rfl
 case pick p x y ih1 ih2 ih3=>
  obtain ⟨v,hv⟩:=abU.1 hF;simp only [bF] at hv;obtain ⟨a,b,d,h1,h2,h3,h4⟩:=nZ hv;rcases h with ((h | h) | h) | h
  ·rw [cD h];exact hF
  ·exact ih1 h (by rw [h1];rfl)
  ·exact ih2 h (by rw [h2];rfl)
  ·exact ih3 h (by rw [h3];rfl)
 case slB p x y ih1 ih2 ih3=>
  obtain ⟨v,hv⟩:=abU.1 hF;simp only [bF] at hv;obtain ⟨a,b,d,h1,h2,h3,h4⟩:=nZ hv;rcases h with ((h | h) | h) | h
  ·rw [cD h];exact hF
  ·exact ih1 h (by rw [h1];rfl)
  ·exact ih2 h (by rw [h2];rfl)
  ·exact ih3 h (by rw [h3];rfl)
 case bin ih1 ih2=>
  obtain ⟨v,hv⟩:=abU.1 hF;simp only [bF] at hv;obtain ⟨a,b,h1,h2,h3⟩:=fh hv;rcases h with (h | h) | h
  ·rw [cD h];exact hF
  ·exact ih1 h (by rw [h1];rfl)
  ·exact ih2 h (by rw [h2];rfl)
 case index ih1 ih2=>
  obtain ⟨v,hv⟩:=abU.1 hF;simp only [bF] at hv;obtain ⟨a,b,h1,h2,h3⟩:=fh hv;rcases h with (h | h) | h
  ·rw [cD h];exact hF
  ·exact ih1 h (by rw [h1];rfl)
  ·exact ih2 h (by rw [h2];rfl)
 case slL ih1 ih2=>
  obtain ⟨v,hv⟩:=abU.1 hF;simp only [bF] at hv;obtain ⟨a,b,h1,h2,h3⟩:=fh hv;rcases h with (h | h) | h
  ·rw [cD h];exact hF
  ·exact ih1 h (by rw [h1];rfl)
  ·exact ih2 h (by rw [h2];rfl)
 case slH ih1 ih2=>
  obtain ⟨v,hv⟩:=abU.1 hF;simp only [bF] at hv;obtain ⟨a,b,h1,h2,h3⟩:=fh hv;rcases h with (h | h) | h
  ·rw [cD h];exact hF
  ·exact ih1 h (by rw [h1];rfl)
  ·exact ih2 h (by rw [h2];rfl)
 case iaddr ih1 ih2=>
  obtain ⟨v,hv⟩:=abU.1 hF;simp only [bF] at hv;obtain ⟨a,b,h1,h2,h3⟩:=fh hv;rcases h with (h | h) | h
  ·rw [cD h];exact hF
  ·exact ih1 h (by rw [h1];rfl)
  ·exact ih2 h (by rw [h2];rfl)
 all_goals
  rename_i ih;obtain ⟨v,hv⟩:=abU.1 hF;simp only [bF] at hv;obtain ⟨a,h1,h2⟩:=ec hv;rcases h with h | h
  ·rw [cD h];exact hF
  ·exact ih h (by rw [h1];rfl)
theorem G4 {bs:List ad} {bad:E->Bool}: ∀{F e:E},e∈dR bad F->(bF c env bs F).isSome=true->(bF c env bs e).isSome=true:=by
 have grd: ∀{g x e:E} {w:Bool} {v:AV},e∈(dR bad x).map (.guard g w)->(∀{e},e∈dR bad x->(bF c env bs x).isSome=true->(bF c env bs e).isSome=true)->mG (bF c env bs g) w (bF c env bs x)=some v->(bF c env bs e).isSome=true:=by
  intro g x e w v he ih hv;obtain ⟨y,hy,rfl⟩:=aaS.1 he;simp only [bF];rcases iN hv with ⟨h1,h2⟩ | ⟨h1,rfl⟩ | ⟨⟨l,h1⟩,rfl⟩
  ·rw [h1,fX];exact ih hy (by rw [h2];rfl)
  ·rw [h1,tq];rfl
  ·rw [h1,mM];rfl
 intro F
 induction F <;> intro e h hF <;> simp only [dR] at h
 case guard g w x ih1 ih2=>
  split at h
  case h_2=>simp only [aaQ,acf,or_false] at h;rw [h];exact hF
  obtain ⟨v,hv⟩:=abU.1 hF;simp only [bF] at hv;rw [abN] at h;rcases h with h | h
  ·refine ih1 h ?_;rcases iN hv with ⟨h1,h2⟩ | ⟨h1,rfl⟩ | ⟨⟨l,h1⟩,rfl⟩ <;> rw [h1] <;> rfl
  ·split at h
   ·cases h
   ·exact grd h ih2 hv
 case and g x ih1 ih2=>
  split at h
  case h_2=>simp only [aaQ,acf,or_false] at h;rw [h];exact hF
  obtain ⟨v,hv⟩:=abU.1 hF;simp only [bF] at hv;rw [abN] at h;rcases h with h | h
  ·refine ih1 h ?_;rcases lM hv with ⟨h1,h2⟩ | ⟨h1,rfl⟩ <;> rw [h1] <;> rfl
  ·split at h
   ·cases h
   ·rcases lM hv with ⟨h1,h2⟩ | ⟨h1,rfl⟩
    ·exact grd (v:=v) h ih2 (by rw [h1,fX];exact h2)
    ·exact grd (v:= .aL []) h ih2 (by rw [h1];rfl)
 case or g x ih1 ih2=>
  split at h
  case h_2=>simp only [aaQ,acf,or_false] at h;rw [h];exact hF
  obtain ⟨v,hv⟩:=abU.1 hF;simp only [bF] at hv;rw [abN] at h;rcases h with h | h
  ·refine ih1 h ?_;rcases n9 hv with ⟨h1,h2⟩ | ⟨h1,rfl⟩ <;> rw [h1] <;> rfl
  ·split at h
   ·cases h
   ·rcases n9 hv with ⟨h1,h2⟩ | ⟨h1,rfl⟩
    ·exact grd (v:=v) h ih2 (by rw [h1,fX];exact h2)
    ·exact grd (v:= .aL []) h ih2 (by rw [h1];rfl)
 all_goals
  split at h
  case h_2=>simp only [aaQ,acf,or_false] at h;rw [h];exact hF
  obtain ⟨v,hv⟩:=abU.1 hF;simp only [bF] at hv
  first
   | (simp only [acf] at h;done)
   | (obtain ⟨a, b, d, h1, h2, h3, h4⟩ := nZ hv
      rename_i ih1 ih2 ih3 _ _;simp only [abN] at h;rcases h with h | h | h
      ·exact ih1 h (by rw [h1]; rfl)
      ·exact ih2 h (by rw [h2]; rfl)
      ·exact ih3 h (by rw [h3]; rfl))
   | (obtain ⟨a, b, h1, h2, h3⟩ := fh hv
      rename_i ih1 ih2 _ _;simp only [abN] at h;rcases h with h | h
      ·exact ih1 h (by rw [h1]; rfl)
      ·exact ih2 h (by rw [h2]; rfl))
   | (obtain ⟨a, h1, h2⟩ := ec hv
      rename_i ih _ _;exact ih h (by rw [h1]; rfl))
theorem zb {bad:E->Bool} (hb: ∀g w x,bad (.guard g w x)=(bad g || bad x)): ∀{F e:E},e∈dR bad F->bad e=false:=by
 have grd: ∀{g x e:E} {w:Bool},e∈(match bad g with | true=> [] | false=>(dR bad x).map (E.guard g w))->(∀{e},e∈dR bad x->bad e=false)->bad e=false:=by
  intro g x e w he ih;split at he
  ·cases he
  ·rename_i hg;obtain ⟨y,hy,rfl⟩:=aaS.1 he;rw [hb,hg,ih hy];rfl
 intro F
 induction F <;> intro e h <;> simp only [dR] at h
 case guard g w x ih1 ih2=>
  split at h
  case h_2=>simp only [aaQ,acf,or_false] at h;rw [h];assumption
  rw [abN] at h;rcases h with h | h
  ·exact ih1 h
  ·exact grd h ih2
 case and g x ih1 ih2=>
  split at h
  case h_2=>simp only [aaQ,acf,or_false] at h;rw [h];assumption
  rw [abN] at h;rcases h with h | h
  ·exact ih1 h
  ·exact grd h ih2
 case or g x ih1 ih2=>
  split at h
  case h_2=>simp only [aaQ,acf,or_false] at h;rw [h];assumption
  rw [abN] at h;rcases h with h | h
  ·exact ih1 h
  ·exact grd h ih2
 all_goals
  split at h
  case h_2=>simp only [aaQ,acf,or_false] at h;rw [h];assumption
  first
   | (simp only [acf] at h;done)
   | (rename_i ih1 ih2 ih3 _ _
      simp only [abN] at h;rcases h with h | h | h
      ·exact ih1 h
      ·exact ih2 h
      ·exact ih3 h)
   | (rename_i ih1 ih2 _ _
      simp only [abN] at h;rcases h with h | h
      ·exact ih1 h
      ·exact ih2 h)
   | (rename_i ih _ _
      exact ih h)
end
end Go.Am
namespace Go.Am
theorem Kv (c:av) (cf:aF) (op:Op) (t:Env) (bs:List ad) (id:Nat):bj c cf op t bs id=eb c cf op (ev t) bs id:=by
 cases op
 case call k=>
  obtain ⟨callee,args,ts⟩:=k;cases callee <;> rfl
 all_goals rfl
theorem mO {φ ψ:Operand->AV} {l:List Operand} (h: ∀x∈l,φ x=ψ x):l.map φ=l.map ψ:=ab9 h
theorem rS {φ ψ:Operand->AV} {l:List (Nat×Operand)} (h: ∀x∈l.map (·.2),φ x=ψ x):(l.map fun p=>(p.1,φ p.2))=l.map fun p=>(p.1,ψ p.2):=
 ab9 fun p hp=>by rw [h p.2 (ace hp)]
theorem qz {φ ψ:Operand->AV} {x:Option Operand} (h: ∀y∈x.toArray,φ y=ψ y):x.map φ=x.map ψ:=by
 cases x with
 | none=>rfl
 | some x=>simp only [aa1];rw [h x (by simp)]
theorem qA (c:av) {op:Op} {φ ψ:Operand->AV} (h: ∀x∈op.operands,φ x=ψ x) (bs:List ad) (id:Nat):c8 c op φ bs id=c8 c op ψ bs id:=by
 cases op <;> simp only [Op.operands] at h
 case move x=>simp only [c8];rw [h x (by simp)]
 case assign x=>simp only [c8];rw [h x (by simp)]
 case pick x y z=>simp only [c8];rw [h x (by simp),h y (by simp),h z (by simp)]
 case box e x=>simp only [c8];rw [h x (by simp)]
 case build ty ps=>simp only [c8];rw [rS (fun x hx=>h x (by simpa using hx))]
 case buildSlice ty n ps=>simp only [c8];rw [rS (fun x hx=>h x (by simpa using hx))]
 case load ty x=>simp only [c8];rw [h x (by simp)]
 case store ty x y=>simp only [c8];rw [h x (by simp),h y (by simp)]
 case nilCheck x=>simp only [c8];rw [h x (by simp)]
 case makeInterface ty x=>simp only [c8];rw [h x (by simp)]
 case binOp o ty x y ty'=>simp only [c8];rw [h x (by simp),h y (by simp)]
 case unOp o ty x=>simp only [c8];rw [h x (by simp)]
 case convert s d x=>simp only [c8];rw [h x (by simp)]
 case makeFunc fn first caps=>
  cases fn <;> first
   | rfl
   | (simp only [c8];rw [mO (fun x hx=>h x (by simp at hx⊢;exact .inl hx)),mO (fun x hx=>h x (by simp at hx⊢;exact .inr hx))])
 case makeSlice ty x y=>simp only [c8];rw [h x (by simp),h y (by simp)]
 case slice ty x lo hi mx=>
  have h1:=qz (x:=lo) (fun y hy=>h y (by simp only [ab5];exact .inl (.inl (.inr hy))));have h2:=qz (x:=hi) (fun y hy=>h y (by simp only [ab5];exact .inl (.inr hy)));simp only [c8];rw [h x (by simp),h1,h2];cases mx with
  | none=>rfl
  | some m=>simp only;rw [h m (by simp)]
 case fieldAddr ty x f=>simp only [c8];rw [h x (by simp)]
 case field ty x f=>simp only [c8];rw [h x (by simp)]
 case indexAddr ty x y=>simp only [c8];rw [h x (by simp),h y (by simp)]
 case index ty x y=>simp only [c8];rw [h x (by simp),h y (by simp)]
 case extract x i=>simp only [c8];rw [h x (by simp)]
 case makeMap ty r=>simp only [c8];rw [qz h]
 case range ty x=>simp only [c8];rw [h x (by simp)]
 case next x str=>simp only [c8];rw [h x (by simp)]
 case lookup ty x k ok=>simp only [c8];rw [h x (by simp),h k (by simp)]
 case mapUpdate ty m k x=>simp only [c8];rw [h m (by simp),h k (by simp),h x (by simp)]
 case insert ty m k x=>simp only [c8];rw [h m (by simp),h k (by simp),h x (by simp)]
 case mapEntry ty m k=>simp only [c8];rw [h m (by simp),h k (by simp)]
 case entryStore ty m s x=>simp only [c8];rw [h m (by simp),h s (by simp),h x (by simp)]
 case entry x=>simp only [c8];rw [h x (by simp)]
 case call k=>
  obtain ⟨callee,args,ts⟩:=k;simp only [c8];rw [mO (fun x hx=>h x (by simp only [Call.operands,ab5];exact .inr (by simpa using hx)))]
 all_goals rfl
theorem CX (c:av) (cf:aF) {op:Op} {φ ψ:Operand->AV} (h: ∀x∈op.operands,φ x=ψ x) (bs:List ad) (id:Nat):eb c cf op φ bs id=eb c cf op ψ bs id:=by
 unfold eb;split
 ·rename_i k;obtain ⟨callee,args,ts⟩:=k;simp only;cases callee with
  | value f=>simp only;rw [h f (by simp [Op.operands,Call.operands]),mO (fun x hx=>h x (by simp only [Op.operands,Call.operands,ab5];exact .inr (by simpa using hx)))]
  | invoke r m=>exact qA c h bs id
  | builtin b=>exact qA c h bs id
 ·exact qA c h bs id
theorem dw {x:Option E} {f:E->E} {e:E} (h:gT x f=some e): ∃a,x=some a∧e=f a:=by
 unfold gT at h;cases x with
 | none=>cases h
 | some a=>cases h;exact ⟨a,rfl,rfl⟩
theorem jS {x y:Option E} {f:E->E->E} {e:E} (h:rP x y f=some e): ∃a b,x=some a∧y=some b∧e=f a b:=by
 unfold rP at h;split at h
 ·cases h;exact ⟨_,_,rfl,rfl,rfl⟩
 ·cases h
theorem wZ {x y z:Option E} {f:E->E->E->E} {e:E} (h:CJ x y z f=some e): ∃a b d,x=some a∧y=some b∧z=some d∧e=f a b d:=by
 unfold CJ at h;split at h
 ·cases h;exact ⟨_,_,_,rfl,rfl,rfl,rfl⟩
 ·cases h
theorem Fk {c:av} {env:List (Option AV)} {bs:List ad} {p a b:E} {v:AV} (h:bF c env bs (Fg p a b)=some v):bF c env bs (.pick p a b)=some v:=by
 unfold Fg at h;split at h
 ·split at h
  ·rename_i hs;obtain rfl:=cD hs;simp only [bF] at h⊢;rcases lM h with ⟨h1,h2⟩ | ⟨h1,rfl⟩
   ·rw [h1,fX,h2];rfl
   ·rw [h1];rfl
  ·exact h
 ·split at h
  ·rename_i hs;obtain rfl:=cD hs;simp only [bF] at h⊢;rcases n9 h with ⟨h1,h2⟩ | ⟨h1,rfl⟩
   ·rw [h1,fX,h2];rfl
   ·rw [h1];rfl
  ·exact h
 ·exact h
theorem Fm {c:av} {s d:Option TI} {x r:AV} {bs:List ad} {i j:Nat} (h:ea c s d x bs i=some (r,.none)):ea c s d x bs j=some (r,.none):=by
 unfold ea at h⊢
 repeat' (first | exact h | (split at h <;> try (cases h;done)))
 all_goals first
  | exact h
  | (simp_all;done)
theorem Nq {c:av} {cf:aF} {env:List (Option AV)} {bs:List ad} {ρ:Operand->Option E} {φ:Operand->AV} (hρ: ∀x e v,ρ x=some e->bF c env bs e=some v->φ x=v) {op:Op} {e:E} {v:AV}
  (h:mI c ρ op=some e) (hv:bF c env bs e=some v) (id:Nat):eb c cf op φ bs id=some (v,.none):=by
 unfold mI at h;split at h
 ·simp only [eb,c8];rw [hρ _ _ _ h hv]
 ·simp only [eb,c8];rw [hρ _ _ _ h hv]
 ·obtain ⟨a,b,d,h1,h2,h3,rfl⟩:=wZ h;have hv:=Fk hv;simp only [bF] at hv;obtain ⟨x,y,z,k1,k2,k3,k4⟩:=nZ hv;simp only [eb,c8];rw [hρ _ _ _ h1 k1,hρ _ _ _ h2 k2,hρ _ _ _ h3 k3];exact eL k4
 ·split at h
  ·cases h
  rename_i hq;obtain ⟨a,b,h1,h2,rfl⟩:=jS h;simp only [bF] at hv;obtain ⟨x,y,k1,k2,k3⟩:=fh hv;simp only [eb,c8,HP,hq];rw [hρ _ _ _ h1 k1,hρ _ _ _ h2 k2,k3];rfl
 ·obtain ⟨a,h1,rfl⟩:=dw h;simp only [bF] at hv;obtain ⟨x,k1,k2⟩:=ec hv;simp only [eb,c8];rw [hρ _ _ _ h1 k1,k2];rfl
 ·obtain ⟨a,b,h1,h2,rfl⟩:=jS h;simp only [bF] at hv;obtain ⟨x,y,k1,k2,k3⟩:=fh hv;simp only [eb,c8];rw [hρ _ _ _ h1 k1,hρ _ _ _ h2 k2];exact eL k3
 ·obtain ⟨a,h1,rfl⟩:=dw h;simp only [bF] at hv;obtain ⟨x,k1,k2⟩:=ec hv;simp only [eb,c8];rw [hρ _ _ _ h1 k1];exact eL k2
 ·obtain ⟨a,h1,rfl⟩:=dw h;simp only [bF] at hv;obtain ⟨x,k1,k2⟩:=ec hv;simp only [eb,c8];rw [hρ _ _ _ h1 k1];exact eL k2
 ·-- convert
  simp only [eb,c8];split at h
  ·rename_i hs hd;obtain ⟨a,h1,rfl⟩:=dw h;simp only [bF] at hv;obtain ⟨x,k1,k2⟩:=ec hv;rw [hρ _ _ _ h1 k1];simp only [av.descOf,abV] at hs hd;obtain ⟨i,hi,hi2⟩:=hs;obtain ⟨j,hj,hj2⟩:=hd;unfold Fb at k2;split at k2
   ·cases k2;simp only [hi,hj,ea,hj2]
   ·cases k2
  ·cases h
  ·obtain ⟨a,h1,rfl⟩:=dw h;simp only [bF] at hv;obtain ⟨x,k1,k2⟩:=ec hv;rw [hρ _ _ _ h1 k1];exact Fm (eL k2)
 ·obtain ⟨a,h1,rfl⟩:=dw h;simp only [bF] at hv;obtain ⟨x,k1,k2⟩:=ec hv;simp only [eb,c8];rw [hρ _ _ _ h1 k1];exact eL k2
 ·obtain ⟨a,h1,rfl⟩:=dw h;simp only [bF] at hv;obtain ⟨x,k1,k2⟩:=ec hv;simp only [eb,c8];rw [hρ _ _ _ h1 k1];exact eL k2
 ·obtain ⟨a,b,h1,h2,rfl⟩:=jS h;simp only [bF] at hv;obtain ⟨x,y,k1,k2,k3⟩:=fh hv;simp only [eb,c8];rw [hρ _ _ _ h1 k1,hρ _ _ _ h2 k2];exact eL k3
 ·obtain ⟨a,h1,rfl⟩:=dw h;simp only [bF] at hv;obtain ⟨x,k1,k2⟩:=ec hv;simp only [eb,c8];rw [hρ _ _ _ h1 k1];exact eL k2
 ·-- slice
  have sl: ∀{x r:AV} {lo hi:Option AV},qw x lo hi=some r->dP c .string x lo hi bs=some (r,.none):=by
   intro x r lo hi h;unfold qw at h;split at h
   ·simp only [dP];split at h
    ·rename_i hh;rw [hh];simp only;split at h
     ·rename_i hl;rw [hl];cases h;rfl
     ·cases h
    ·cases h
   ·cases h
  split at h
  ·rename_i hd;simp only [av.descOf,abV] at hd;obtain ⟨j,hj,hj2⟩:=hd;simp only [eb,c8,hj,hj2];split at h
   ·obtain ⟨a,h1,rfl⟩:=dw h;simp only [bF] at hv;obtain ⟨x,k1,k2⟩:=ec hv;rw [hρ _ _ _ h1 k1];exact sl k2
   ·obtain ⟨a,b,h1,h2,rfl⟩:=jS h;simp only [bF] at hv;obtain ⟨x,y,k1,k2,k3⟩:=fh hv;simp only [aa1,acg];rw [hρ _ _ _ h1 k1,hρ _ _ _ h2 k2];exact sl k3
   ·obtain ⟨a,b,h1,h2,rfl⟩:=jS h;simp only [bF] at hv;obtain ⟨x,y,k1,k2,k3⟩:=fh hv;simp only [aa1,acg];rw [hρ _ _ _ h1 k1,hρ _ _ _ h2 k2];exact sl k3
   ·obtain ⟨a,b,d,h1,h2,h3,rfl⟩:=wZ h;simp only [bF] at hv;obtain ⟨x,y,z,k1,k2,k3,k4⟩:=nZ hv;simp only [aa1];rw [hρ _ _ _ h1 k1,hρ _ _ _ h2 k2,hρ _ _ _ h3 k3];exact sl k4
  ·cases h
 ·-- len
  rename_i k;obtain ⟨callee,args,ts⟩:=k;simp only at h;split at h
  ·rename_i hts hargs;simp only [eb,c8];rw [hts,hargs];simp only [aaM,List.map_nil,eH];split at h
   ·rename_i hd;simp only [av.descOf,abV] at hd;obtain ⟨j,hj,hj2⟩:=hd;obtain ⟨a,h1,rfl⟩:=dw h;simp only [bF] at hv;obtain ⟨x,k1,k2⟩:=ec hv;rw [hρ _ _ _ h1 k1];unfold Km at k2;split at k2
    ·cases k2;simp only [hj,hj2,qh]
    ·cases k2
   ·obtain ⟨a,h1,rfl⟩:=dw h;simp only [bF] at hv;obtain ⟨x,k1,k2⟩:=ec hv;rw [hρ _ _ _ h1 k1];have:=eL k2;unfold QV at this;exact this
  ·cases h
 ·cases h
end Go.Am
namespace Go.Am
section
variable {c:av} {cf:aF} {base:Nat} {kl:List Nat}
abbrev seen (base:Nat) (kl:List Nat) (bs:List ad):List ad:=bc (kl.map (base+ ·)) bs
theorem oc {env:List (Option AV)} {bs:List ad}: ∀{l:List (Nat×E)} {vs:List (Nat×AV)},pG c env bs l=some vs-> ∀i e,(i,e)∈l-> ∃v,bF c env bs e=some v∧(i,v)∈vs
 | [],vs,h,i,e,hm=>by cases hm
 | (j,f)::r,vs,h,i,e,hm=>by
  simp only [pG] at h;split at h
  ·rename_i v hv;split at h
   ·rename_i l hl;cases h;rcases aaQ.1 hm with h1 | h1
    ·cases h1;exact ⟨v,hv,aaR⟩
    ·obtain ⟨u,h2,h3⟩:=oc hl i e h1;exact ⟨u,h2,abO _ h3⟩
   ·cases h
  ·cases h
theorem lN {env:List (Option AV)} {bs:List ad}: ∀{l:List (Nat×E)} {vs:List (Nat×AV)},pG c env bs l=some vs->vs.map (·.1)=l.map (·.1)
 | [],vs,h=>by cases h;rfl
 | (j,f)::r,vs,h=>by
  simp only [pG] at h;split at h
  ·split at h
   ·rename_i l hl;cases h;simp only [aaM,lN hl]
   ·cases h
  ·cases h
theorem la: ∀(vs:List (Nat×AV)) (env:List (Option AV)),(dJ env vs).length=env.length
 | [],_=>rfl
 | (i,v)::r,env=>by simp only [dJ];rw [la r];simp
theorem lg {k:Nat}: ∀(vs:List (Nat×AV)) (env:List (Option AV)),(∀p∈vs,p.1≠k)->(dJ env vs).getD k none=env.getD k none
 | [],_,_=>rfl
 | (i,v)::r,env,h=>by
  simp only [dJ];rw [lg r _ fun p hp=>h p (abO _ hp)];simp only [aaE];rw [aaG (h (i,v) aaR)]
theorem xa {k:Nat} {v:AV}: ∀(vs:List (Nat×AV)) (env:List (Option AV)),(vs.map (·.1)).Nodup->(k,v)∈vs->k<env.length->(dJ env vs).getD k none=some v
 | [],_,_,h,_=>by cases h
 | (i,u)::r,env,hn,h,hk=>by
  simp only [aaM,aaU] at hn;simp only [dJ];rcases aaQ.1 h with h1 | h1
  ·cases h1;rw [lg r _ fun p hp e=>hn.1 (by rw [<-e];exact ace hp)];simp [aaE,hk]
  ·exact xa r _ hn.2 h1 (by simpa using hk)
theorem qB {bs:List ad} {e:E}: ∀(vs:List (Nat×AV)) (env:List (Option AV)),(∀p∈vs,e.looks p.1=false)->bF c (dJ env vs) bs e=bF c env bs e
 | [],_,_=>rfl
 | (i,v)::r,env,h=>by
  simp only [dJ];rw [qB r _ fun p hp=>h p (abO _ hp)];exact AW (h (i,v) aaR)
theorem Nr {α:Type} (l:List α) (f g:α->Bool):(l.any fun p=>f p || g p)=(l.any f || l.any g):=by
 induction l with
 | nil=>rfl
 | cons a l ih=>simp only [List.any_cons,ih];cases f a <;> cases g a <;> cases l.any f <;> rfl
theorem tr: ∀{its:List It} {env:List (Option AV)} {bs:List ad} {r:List (Option AV)×List ad},bD c cf base kl its env bs=some r-> ∀e∈qx its,(bF c env (seen base kl bs) e).isSome=true
 | [],_,_,_,_,e,he=>by cases he
 | .par l::its,env,bs,r,h,e,he=>by
  simp only [bD] at h;split at h
  ·rename_i vs hvs;simp only [qx,abN,acd] at he;rcases he with he | ⟨f,hf,he⟩
   ·obtain ⟨⟨i,e'⟩,hp,rfl⟩:=aaS.1 he;obtain ⟨v,hv,_⟩:=oc hvs i e' hp;show (bF c env (seen base kl bs) e').isSome=true;rw [hv];rfl
   ·have h1:=tr h f hf;have h2:=G4 he h1;have h3:=zb (bad:=fun e=>l.any fun p=>e.looks p.1) (fun g w x=>by simp only [E.looks];exact Nr l _ _) he;rw [qB vs env (fun p hp=> ?_)] at h2
    ·exact h2
    ·have:p.1∈l.map (·.1):=by rw [<-lN hvs];exact ace hp
     obtain ⟨q,hq,hqp⟩:=aaS.1 this;rw [List.any_eq_false] at h3;have:=h3 q hq;rw [hqp] at this;simpa using this
  ·cases h
 | .dm mask k d g o xs::its,env,bs,r,h,e,he=>by
  simp only [bD] at h
  have late: ∀{v:AV} {bs':List ad},bD c cf base kl its (wS env d v) bs'=some r->e∈(qx its).flatMap (dR fun e=>e.reads || wT d e)->(bF c env (seen base kl bs) e).isSome=true:=by
   intro v bs' h he;obtain ⟨f,hf,he⟩:=acd.1 he;have h1:=tr h f hf;have h2:=G4 he h1
   have h3:=zb (bad:=fun e=>e.reads || wT d e) (fun g w x=>by
    cases d with
    | none=>simp only [E.reads,wT,ab7]
    | some i=>simp only [E.reads,wT,E.looks];cases g.reads <;> cases x.reads <;> cases g.looks i <;> cases x.looks i <;> rfl) he
   simp only [ab6] at h3;rw [wY h3.1 (bs':=seen base kl bs)] at h2;cases d with
   | none=>exact h2
   | some i=>simp only [wS] at h2;rw [AW h3.2] at h2;exact h2
  simp only [qx,abN] at he;split at h
  ·rename_i hw;split at h
   ·rename_i vs hvs;split at h
    ·rcases he with he | he
     ·cases g with
      | none=>simp only at he;obtain ⟨⟨i,e'⟩,hp,rfl⟩:=aaS.1 he;obtain ⟨v,hv,_⟩:=oc hvs i e' hp;show (bF c env (seen base kl bs) e').isSome=true;rw [hv];rfl
      | some q=>
       obtain ⟨x,w⟩:=q;simp only [uH,uG] at hw
       have hx:bF c env (seen base kl bs) x=some (.bool w):=by
        split at hw
        ·rename_i b hb;rw [hb];cases b <;> cases w <;> simp_all
        ·cases hw
        ·cases hw
       simp only [aaQ] at he;rcases he with rfl | he
       ·rw [hx];rfl
       ·obtain ⟨⟨i,e'⟩,hp,rfl⟩:=aaS.1 he;obtain ⟨v,hv,_⟩:=oc hvs i e' hp;simp only [bF];rw [hx,fX,hv];rfl
     ·exact late h he
    ·cases h
   ·cases h
  ·rename_i hw;rcases he with he | he
   ·cases g with
    | none=>simp [uH] at hw
    | some q=>
     obtain ⟨x,w⟩:=q;simp only [uH,uG] at hw
     have hx:bF c env (seen base kl bs) x=some (.bool (!w))∨ ∃l,bF c env (seen base kl bs) x=some (.aL l):=by
      split at hw
      ·rename_i b hb;left;rw [hb];cases b <;> cases w <;> simp_all
      ·rename_i l hb;right;exact ⟨l,hb⟩
      ·cases hw
     simp only [aaQ] at he;rcases he with rfl | he
     ·rcases hx with hx | ⟨l,hx⟩ <;> rw [hx] <;> rfl
     ·obtain ⟨⟨i,e'⟩,hp,rfl⟩:=aaS.1 he;simp only [bF];rcases hx with hx | ⟨l,hx⟩
      ·rw [hx,tq];rfl
      ·rw [hx,mM];rfl
   ·exact late h he
  ·cases h
theorem lO {i:Nat} {e:E}: ∀{σ:List (Nat×E)},dF σ i=some e->(i,e)∈σ
 | [],h=>by cases h
 | (j,f)::r,h=>by
  simp only [dF] at h;split at h
  ·rename_i hij;cases h;subst hij;exact aaR
  ·exact abO _ (lO h)
theorem qC {i:Nat} {e:E}: ∀{σ:List (Nat×E)},(i,e)∈σ-> ∃f,dF σ i=some f
 | [],h=>by cases h
 | (j,f)::r,h=>by
  simp only [dF];split
  ·exact ⟨f,rfl⟩
  ·rename_i hij;rcases aaQ.1 h with h1 | h1
   ·cases h1;exact absurd rfl hij
   ·exact qC h1
def kf (σ:List (Nat×E)):Prop:= ∀i e,(i,e)∈σ->dF σ i=some e
theorem kf.filter {σ:List (Nat×E)} (h:kf σ) (p:Nat×E->Bool):kf (σ.filter p):=fun i e he=>by
 obtain ⟨f,hf⟩:=qC he;have h1:=h i e (abP.1 he).1;have h2:=h i f (abP.1 (lO hf)).1;rw [h1] at h2;cases h2;exact hf
theorem kf.look {σ:List (Nat×E)} (h:kf σ) {p:Nat×E->Bool} {i:Nat} {e:E} (hl:dF (σ.filter p) i=some e):dF σ i=some e∧p (i,e)=true:=
 ⟨h i e (abP.1 (lO hl)).1,(abP.1 (lO hl)).2⟩
theorem kf.cons {σ:List (Nat×E)} (h:kf σ) (d:Nat) (e:E):kf ((d,e)::σ.filter fun p=>p.1 !=d):=fun i f hf=>by
 simp only [dF];rcases aaQ.1 hf with h1 | h1
 ·cases h1;rw [if_pos rfl]
 ·have:=(abP.1 h1).2;simp only [bne_iff_ne] at this;rw [if_neg this];exact h.filter _ i f h1
theorem tu: ∀{keep:List Nat} {i j k:Nat},posOf keep i=some k->posOf keep j=some k->i=j
 | [],_,_,_,h,_=>by cases h
 | x::r,i,j,k,h1,h2=>by
  simp only [posOf] at h1 h2;split at h1 <;> split at h2
  ·subst_vars;rfl
  ·cases h1;cases hp:posOf r j <;> rw [hp] at h2 <;> cases h2
  ·cases h2;cases hp:posOf r i <;> rw [hp] at h1 <;> cases h1
  ·cases hi:posOf r i with
   | none=>rw [hi] at h1;cases h1
   | some a=>cases hj:posOf r j with
    | none=>rw [hj] at h2;cases h2
    | some b=>rw [hi] at h1;rw [hj] at h2;simp only [aa1,Option.some.injEq] at h1 h2;exact tu hi (by rw [hj];congr 1;omega)
theorem dn: ∀{keep:List Nat} {i k:Nat},posOf keep i=some k->keep[k]?=some i
 | [],_,_,h=>by cases h
 | x::r,i,k,h=>by
  simp only [posOf] at h;split at h
  ·cases h;subst_vars;rfl
  ·cases hi:posOf r i with
   | none=>rw [hi] at h;cases h
   | some a=>rw [hi] at h;cases h;simpa using dn hi
theorem xb {keep:List Nat} {σ:List (Nat×E)} {i:Nat} {e:E} (he:dF σ i=some e): ∀{l:List Nat} {j k0:Nat},l[j]?=some i->(k0+j,e)∈dK keep σ l k0
 | [],_,_,h=>by simp at h
 | x::r,0,k0,h=>by simp at h;subst h;simp [dK,he]
 | x::r,j+1,k0,h=>by
  have:=xb (keep:=keep) he (l:=r) (j:=j) (k0:=k0+1) (by simpa using h);rw [show k0+1+j=k0+(j+1) by omega] at this;simp only [dK];split
  ·exact abO _ this
  ·exact this
theorem kE {keep:List Nat} {σ:List (Nat×E)} {k:Nat} {e:E}: ∀{l:List Nat} {k0:Nat},(k,e)∈dK keep σ l k0-> ∃j i,l[j]?=some i∧k=k0+j∧dF σ i=some e
 | [],_,h=>by cases h
 | x::r,k0,h=>by
  simp only [dK] at h;split at h
  ·rename_i f hf;rcases aaQ.1 h with h1 | h1
   ·cases h1;exact ⟨0,x,rfl,rfl,hf⟩
   ·obtain ⟨j,i,h2,h3,h4⟩:=kE h1;exact ⟨j+1,i,by simpa using h2,by omega,h4⟩
  ·obtain ⟨j,i,h2,h3,h4⟩:=kE h;exact ⟨j+1,i,by simpa using h2,by omega,h4⟩
theorem mP {keep:List Nat} {σ:List (Nat×E)}: ∀(l:List Nat) (k0:Nat),((dK keep σ l k0).map (·.1)).Nodup
 | [],_=>List.nodup_nil
 | x::r,k0=>by
  simp only [dK];split
  ·simp only [aaM,aaU];refine ⟨fun h=> ?_,mP r _⟩;obtain ⟨⟨k,e⟩,h1,h2⟩:=aaS.1 h;obtain ⟨j,i,_,h4,_⟩:=kE h1;simp only at h2;omega
  ·exact mP r _
structure lh (c:av) (keep:List Nat) (nt:Nat) (env:List (Option AV)) (bs:List ad) (σ:List (Nat×E)) (t:Env):Prop where
 len:env.length=keep.length
 has: ∀i,i<nt->t.has i=true
 uniq:kf σ
 QY: ∀i e v,dF σ i=some e->bF c env bs e=some v->t.get .any i=v
 env: ∀i k v,dF σ i=none->posOf keep i=some k->env.getD k none=some v->t.get .any i=v
variable {keep:List Nat} {nt:Nat} {env:List (Option AV)} {bs:List ad} {σ:List (Nat×E)} {t:Env}
theorem lh.res (h:lh c keep nt env bs σ t) {i:Nat} {e:E} {v:AV} (hr:AK keep σ i=some e) (hv:bF c env bs e=some v):t.get .any i=v:=by
 unfold AK at hr;split at hr
 ·rename_i f hf;cases hr;exact h.QY i _ v hf hv
 ·rename_i hf;simp only [abV] at hr;obtain ⟨k,hk,rfl⟩:=hr;exact h.env i k v hf hk hv
theorem lh.AM (h:lh c keep nt env bs σ t) {x:Operand} {e:E} {v:AV} (hr:AM keep σ x=some e) (hv:bF c env bs e=some v):ev t x=v:=by
 cases x with
 | tmp i=>exact h.res hr hv
 | const u=>cases hr;cases hv;rfl
 | func f=>cases hr;cases hv;rfl
 | global g=>cases hr
theorem lh.flush (h:lh c keep nt env bs σ t) {vs:List (Nat×AV)} (hvs:pG c env bs (dK keep σ keep 0)=some vs): ∀i k v,posOf keep i=some k->(dJ env vs).getD k none=some v->t.get .any i=v:=by
 intro i k v hk hv;have hg:=dn hk;have hlt:k<env.length:=by rw [h.len];exact (ab8.1 hg).1
 cases hl:dF σ i with
 | some e=>have hm:=xb (keep:=keep) hl (l:=keep) (j:=k) (k0:=0) hg;rw [Nat.zero_add] at hm;obtain ⟨u,hu,hum⟩:=oc hvs k e hm;rw [xa vs env (by rw [lN hvs];exact mP _ _) hum hlt] at hv;cases hv;exact h.QY i e _ hl hu
 | none=>
  rw [lg vs env (fun p hp hpk=> ?_)] at hv
  ·exact h.env i k v hl hk hv
  ·have:p.1∈(dK keep σ keep 0).map (·.1):=by rw [<-lN hvs];exact ace hp
   obtain ⟨⟨k',e⟩,h1,h2⟩:=aaS.1 this;obtain ⟨j,i',h3,h4,h5⟩:=kE h1;simp only at h2;have:j=k:=by omega
   subst this;rw [hg] at h3;cases h3;rw [hl] at h5;cases h5
theorem lh.Ns (h:lh c keep nt env bs σ t) {vs:List (Nat×AV)} (hvs:pG c env bs (dK keep σ keep 0)=some vs):lh c keep nt (dJ env vs) bs (za keep (dK keep σ keep 0) σ) t where
 len:=by rw [la];exact h.len
 has:=h.has
 uniq:=h.uniq.filter _
 QY:=fun i e v hl hv=>by
  obtain ⟨h1,h2⟩:=h.uniq.look hl;simp only [abj,abH,aax] at h2;rw [qB vs env (fun p hp=> ?_)] at hv
  ·exact h.QY i e v h1 hv
  ·have:p.1∈(dK keep σ keep 0).map (·.1):=by rw [<-lN hvs];exact ace hp
   obtain ⟨q,hq,hqp⟩:=aaS.1 this;rw [<-hqp];exact h2.2 q hq
 env:=fun i k v _ hk hv=>h.flush hvs i k v hk hv
end
end Go.Am
namespace Go.Am
section
variable {c:av} {cf:aF} {ops:Array Oper}
def step1 (c:av) (cf:aF) (ops:Array Oper) (id:Nat) (o:Oper) (s:St):Option St:=
 match aW ops s.t o.guard with
 | some true=>match bj c cf o.op s.t s.b id with
  | some (v,e)=>match e.on s.b id with
   | some bs'=>some {t:=aB s.t o.dst v,b:=bs'}
   | .none=> .none
  | .none=> .none
 | some false=>some {t:=aB s.t o.dst (.aL []),b:=s.b}
 | .none=> .none
def gU (c:av) (cf:aF) (ops:Array Oper) (dr:Bool) (base i:Nat) (o:Oper) (s:St):Option St:=
 match dr with
 | true=>az c cf ops base i o s
 | false=>step1 c cf ops (bB ops.toList i base) o s
def AX (c:av) (cf:aF) (ops:Array Oper) (dr:Bool) (base:Nat):List Oper->Nat->St->Option St
 | [],_,s=>some s
 | o::r,i,s=>match gU c cf ops dr base i o s with
  | some s'=>AX c cf ops dr base r (i+1) s'
  | .none=> .none
theorem Fo (base:Nat): ∀(l:List Oper) (i:Nat) (s:St),HU c cf ops base l i s=AX c cf ops true base l i s
 | [],_,_=>rfl
 | o::r,i,s=>by
  simp only [HU,AX,gU];cases az c cf ops base i o s with
  | none=>rfl
  | some s'=>exact Fo base r _ _
theorem zc: ∀(l:List Oper) (i base:Nat) (o:Oper),l[i]?=some o->bB l (i+1) base=next (bB l i base) o.op
 | [],i,base,o,h=>by simp at h
 | p::r,0,base,o,h=>by
  simp at h;subst h;cases r <;> rfl
 | p::r,i+1,base,o,h=>by
  simp at h;simp only [bB];exact zc r i _ o h
theorem CY (b k:Nat) (op:Op):next (b+k) op=b+next k op:=by unfold next;split <;> omega
theorem CZ (b:Nat): ∀(l:List Oper) (i k:Nat),bB l i (b+k)=b+bB l i k
 | _,0,_=>by cases ‹List Oper› <;> rfl
 | [],_+1,_=>rfl
 | o::r,i+1,k=>by simp only [bB];rw [CY];exact CZ b r i _
theorem od (bf:List Nat) (i b:Nat): ∀(l:List Oper) (j k:Nat),dc bf i l j (b+k)=(dc bf i l j k).map (b+ ·)
 | [],_,_=>rfl
 | o::r,j,k=>by
  simp only [dc];split <;> simp only [CY,od bf i b r,aaM]
theorem rT (base:Nat): ∀(l:List Oper) (i:Nat) (t:Env) (bs:List ad),(∀j,l[j]?=ops.toList[i+j]?)->ql c cf ops l (bB ops.toList i base) t bs=AX c cf ops false base l i ⟨t,bs⟩
 | [],_,_,_,_=>rfl
 | o::r,i,t,bs,h=>by
  have ho:ops.toList[i]?=some o:=by have:=h 0;rw [Nat.add_zero] at this;rw [<-this];rfl
  have hr: ∀j,r[j]?=ops.toList[i+1+j]?:=fun j=>by rw [show i+1+j=i+(j+1) by omega,<-h (j+1)];rfl
  simp only [ql,AX,gU,step1];rw [<-zc _ _ _ _ ho];cases aW ops t o.guard with
  | none=>rfl
  | some b=>cases b with
   | false=>exact rT base r _ _ _ hr
   | true=>
    simp only;cases bj c cf o.op t bs (bB ops.toList i base) with
    | none=>rfl
    | some p=>
     obtain ⟨v,e⟩:=p;simp only;cases e.on bs (bB ops.toList i base) with
     | none=>rfl
     | some bs'=>exact rT base r _ _ _ hr
theorem AY {L M:List Nat} (h: ∀x∈M,x∈L) (bs:List ad):Sub (bc L bs) (bc M bs):=fun k hk=>by
 simp only [ad.at,aaE] at hk⊢;rw [b9] at hk;rw [b9,b9];by_cases h1:k∈L∧k<bs.length
 ·rw [if_pos h1] at hk;simp at hk
 ·rw [if_neg h1,if_neg (fun h2=>h1 ⟨h _ h2.1,h2.2⟩)]
variable {base:Nat} {kl:List Nat} {keep:List Nat} {nt:Nat} {env:List (Option AV)} {bs:List ad} {σ:List (Nat×E)} {t:Env}
theorem lh.want (h:lh c keep nt env bs σ t) {g:Option (Nat×Bool)} {x:E} {w:Bool} (hg:guardOf ops keep σ g=some (some (x,w))) {u:AV} (hu:bF c env bs x=some u):aW ops t g=uG (some u) w:=by
 unfold guardOf at hg;split at hg
 ·cases hg
 ·split at hg
  ·cases hg
  ·rename_i d hd;split at hg
   ·rename_i e he;cases hg;simp only [aW,hd];rw [h.res he hu];simp only [uG];cases u <;> rfl
   ·cases hg
theorem zd {g:Option (Nat×Bool)} (hg:guardOf ops keep σ g=some none):aW ops t g=some true:=by
 unfold guardOf at hg;split at hg
 ·rfl
 ·split at hg
  ·cases hg
  ·split at hg <;> cases hg
theorem Nt (hs: ∀i,i<nt->t.has i=true) (d:Option Nat) (v:AV): ∀i,i<nt->(aB t d v).has i=true:=fun i hi=>by
 cases d with
 | none=>exact hs i hi
 | some j=>simp only [aB];rw [Tr.fS];exact hs i hi
theorem Nu {op:Op} {p:Nat} (h:hZ op=some p):p∈op.operands.toList.filterMap Ko:=by
 refine abQ.2 ⟨.tmp p,?_,rfl⟩;unfold hZ at h;split at h
 ·rename_i q hq;cases h;unfold et at hq;split at hq
  ·cases hq;simp [Op.operands]
  ·cases hq;simp [Op.operands]
  ·rename_i args ts;split at hq
   ·rename_i q2 hq2;cases hq;simp only [Op.operands,Call.operands];simp [hq2]
   ·cases hq
  ·cases hq
 ·unfold de at h;split at h
  ·cases h;simp [Op.operands]
  ·cases h;simp [Op.operands]
  ·cases h
theorem yi {i:Option TI} {x r:AV} {f:Nat} {bs:List ad} {e:c9} (h:cN i x f bs=some (r,e)):iJ r=iJ x∧nk r=nk x:=by
 unfold cN at h;split at h
 ·split at h
  ·split at h
   ·split at h
    ·cases h
    ·unfold nh at h;split at h
     ·cases h;exact ⟨rfl,rfl⟩
     ·split at h
      ·split at h
       ·cases h;exact ⟨rfl,rfl⟩
       ·cases h
      ·cases h
     ·cases h;exact ⟨rfl,rfl⟩
     ·cases h
   ·cases h
  ·cases h
 ·cases h
theorem Ih {c:av} {env:List (Option AV)} {bs:List ad} {b:E}: ∀(a:E) {u:AV},CR a b=true->bF c env bs a=some u-> ∃u',bF c env bs b=some u'∧iJ u=iJ u'∧nk u=nk u':=by
 intro a
 induction a with
 | faddr ty x f ih=>
  intro u h hu;unfold CR at h;rw [abq] at h;rcases h with h | h
  ·rw [<-cD h];exact ⟨u,hu,rfl,rfl⟩
  ·simp only [bF] at hu;cases hx:bF c env bs x with
   | none=>rw [hx] at hu;cases hu
   | some v=>
    rw [hx] at hu;simp only [Fe] at hu;obtain ⟨u',h1,h2,h3⟩:=ih h hx;cases hf:cN (c.ti ty) v f bs with
    | none=>rw [hf] at hu;cases hu
    | some p=>
     obtain ⟨r,e⟩:=p;rw [hf] at hu;obtain ⟨k1,k2⟩:=yi hf;unfold rN at hu;split at hu
     ·rename_i heq;cases heq;cases hu;exact ⟨u',h1,k1.trans h2,k2.trans h3⟩
     ·cases hu
 | _=>intro u h hu;unfold CR at h;simp only [ab7] at h;rw [<-cD h];exact ⟨u,hu,rfl,rfl⟩
theorem Nv {c:av} {ops:Array Oper} {j:Nat} {op:Op} {t:Env} (h: ∀p q,hZ op=some p->iq ops j p=some q->iJ (t.get .any p)=iJ (t.get .any q)∧nk (t.get .any p)=nk (t.get .any q)):cg c ops j op t=true:=by
 unfold cg;split
 ·rfl
 ·rename_i p hp;split
  ·rfl
  ·rename_i q hq;rw [(h p q hp hq).1,(h p q hp hq).2];simp
theorem C0 (h:lh c keep nt env bs σ t) {j:Nat} {op:Op} (ha: ∀p,hZ op=some p-> ∀e,AK keep σ p=some e-> ∃u,bF c env bs e=some u) {g:Option (E×Bool)} (hgs: ∀x,bF c env bs (fg g x)=bF c env bs x) (hr:CT c ops keep g σ true j op=true):cg c ops j op t=true:=by
 cases hany:(wz c ops || oV ops) with
 | false=>rw [ab6] at hany;exact Kg hany.1 hany.2
 | true=>
  refine Nv fun p q hp hq=> ?_;unfold CT at hr;rw [hp,hany] at hr;simp only [abB,hq] at hr;split at hr
  ·rename_i a b ha' hb;obtain ⟨u,hu⟩:=ha p hp a ha';obtain ⟨u',k1,k2,k3⟩:=Ih _ hr ((hgs a).trans hu);rw [h.res ha' hu,h.res hb ((hgs b).symm.trans k1)];exact ⟨k2,k3⟩
  ·cases hr
theorem C1 (h:lh c keep nt env bs σ t) {g:Option (E×Bool)} {j:Nat} {op:Op} {e:E} {v:AV} (hp:mI c (fun x=>(AM keep σ x).map (fg g)) op=some e) (hgs: ∀x,bF c env bs (fg g x)=bF c env bs x) (hv:bF c env bs e=some v) (hr:CT c ops keep g σ true j op=true):cg c ops j op t=true:=by
 refine C0 h (fun p hpk a ha=> ?_) hgs hr
 have one: ∀x,((AM keep σ (.tmp p)).map (fg g))=some x->(∃u,bF c env bs x=some u)-> ∃u,bF c env bs a=some u:=fun x hx ⟨u,hu⟩=>by
  simp only [AM,ha,aa1,Option.some.injEq] at hx;subst hx;exact ⟨u,by rw [<-hgs];exact hu⟩
 unfold hZ at hpk;split at hpk
 ·rename_i p' hpk';cases hpk;unfold et at hpk';split at hpk'
  ·cases hpk';simp only [mI,gT,abV] at hp;obtain ⟨x,hx,rfl⟩:=hp;refine one x (by simpa using hx) ?_;simp only [bF] at hv;cases hx2:bF c env bs x with
   | none=>rw [hx2] at hv;cases hv
   | some u=>exact ⟨u,rfl⟩
  ·cases hpk';simp only [mI,gT,abV] at hp;obtain ⟨x,hx,rfl⟩:=hp;refine one x (by simpa using hx) ?_;simp only [bF] at hv;cases hx2:bF c env bs x with
   | none=>rw [hx2] at hv;cases hv
   | some u=>exact ⟨u,rfl⟩
  ·rename_i args ts;split at hpk'
   ·rename_i p' hargs;cases hpk';simp only [mI,hargs] at hp;split at hp
    ·rename_i x _ _ hxx;simp only [List.cons.injEq,and_true] at hxx;subst hxx;split at hp
     ·simp only [gT,abV] at hp;obtain ⟨x,hx,rfl⟩:=hp;refine one x (by simpa using hx) ?_;simp only [bF] at hv;cases hx2:bF c env bs x with
      | none=>rw [hx2] at hv;cases hv
      | some u=>exact ⟨u,rfl⟩
     ·simp only [gT,abV] at hp;obtain ⟨x,hx,rfl⟩:=hp;refine one x (by simpa using hx) ?_;simp only [bF] at hv;cases hx2:bF c env bs x with
      | none=>rw [hx2] at hv;cases hv
      | some u=>exact ⟨u,rfl⟩
    ·cases hp
   ·cases hpk'
  ·cases hpk'
 ·unfold de at hpk;split at hpk
  ·rename_i hno;simp [et] at hno
  ·cases hpk;rename_i ty lo hi _;simp only [mI] at hp
   have fin: ∀x,((AM keep σ (.tmp p)).map (fg g))=some x->bF c env bs x≠none-> ∃u,bF c env bs a=some u:=fun x hx hne=>by
    refine one x hx ?_;cases hx2:bF c env bs x with
    | none=>exact absurd hx2 hne
    | some u=>exact ⟨u,rfl⟩
   split at hp
   ·split at hp
    ·simp only [gT,abV] at hp;obtain ⟨x,hx,rfl⟩:=hp;exact fin x (by simpa using hx) (fun e=>by simp [bF,e,Fe] at hv)
    ·unfold rP at hp;split at hp
     ·rename_i x y hx hy;cases hp;exact fin x hx (fun e=>by simp [bF,e,GX] at hv)
     ·cases hp
    ·unfold rP at hp;split at hp
     ·rename_i x y hx hy;cases hp;exact fin x hx (fun e=>by simp [bF,e,GX] at hv)
     ·cases hp
    ·unfold CJ at hp;split at hp
     ·rename_i x y z hx hy hz;cases hp;exact fin x hx (fun e=>by simp [bF,e,My] at hv)
     ·cases hp
   ·cases hp
  ·cases hpk
theorem xc {dr:Bool} {i:Nat} {o:Oper} {v:AV} (hw:aW ops t o.guard=some true) (hd: ∀(cf:aF) bs' id,Sub (seen base kl bs) bs'->bj c cf o.op t bs' id=some (v,.none)) (hk:dr=true-> ∀x∈dc (fo ops) i ops.toList 0 0,x∈kl) (hroot:dr=true->cg c ops i o.op t=true):
  gU c cf ops dr base i o ⟨t,bs⟩=some ⟨aB t o.dst v,bs⟩:=by
 cases dr with
 | false=>simp only [gU,step1,hw];rw [hd _ _ _ (dQ _ _)];rfl
 | true=>
  simp only [gU,az,hw];split
  ·rw [hd _ _ _ (dQ _ _)];rfl
  ·rw [hd _ _ _ ?_]
   ·simp only [hroot rfl]
   unfold bo;refine AY (fun x hx=> ?_) bs;rw [show base=base+0 from rfl,od] at hx;obtain ⟨y,hy,rfl⟩:=aaS.1 hx;exact ace (hk rfl y hy)
theorem xe {dr:Bool} {i:Nat} {o:Oper} (hw:aW ops t o.guard=some false):gU c cf ops dr base i o ⟨t,bs⟩=some ⟨aB t o.dst (.aL []),bs⟩:=by cases dr <;> simp only [gU,step1,az,hw]
theorem iO {i:Nat} {v:AV}: ∀{vs:List (Nat×AV)},(∀p∈vs,p.1=i->p.2=v)->(∃p∈vs,p.1=i)->look vs i=v
 | [],_,⟨_,h,_⟩=>by cases h
 | (j,u)::r,h1,⟨p,hp,hpi⟩=>by
  simp only [look];split
  ·rename_i hij;exact h1 (j,u) aaR hij.symm
  ·rename_i hij;refine iO (fun q hq=>h1 q (abO _ hq)) ?_;rcases aaQ.1 hp with rfl | hp
   ·exact absurd hpi.symm hij
   ·exact ⟨p,hp,hpi⟩
theorem G5 {g:Option (E×Bool)} (hg: ∀e,bF c env bs (fg g e)=bF c env bs e): ∀{l:List Nat} {xs:List (Nat×E)} {vs:List (Nat×AV)},th keep σ l=some xs->pG c env bs (xs.map fun p=>(p.1,fg g p.2))=some vs-> ∀i∈l,∀e,AK keep σ i=some e-> ∃u,bF c env bs e=some u
 | [],_,_,_,_=>fun i hi=>by cases hi
 | i::r,xs,vs,h1,h2=>by
  simp only [th] at h1;split at h1
  ·rename_i e l he hl;cases h1;simp only [aaM,pG] at h2;split at h2
   ·rename_i v hv;split at h2
    ·rename_i vs' hvs';intro j hj e' he';rcases aaQ.1 hj with rfl | hj
     ·rw [he] at he';cases he';exact ⟨v,by rw [<-hg];exact hv⟩
     ·exact G5 hg hl hvs' j hj e' he'
    ·cases h2
   ·cases h2
  ·cases h1
theorem lh.args (h:lh c keep nt env bs σ t) {g:Option (E×Bool)} (hg: ∀e,bF c env bs (fg g e)=bF c env bs e): ∀{l:List Nat} {xs:List (Nat×E)} {vs:List (Nat×AV)},th keep σ l=some xs->pG c env bs (xs.map fun p=>(p.1,fg g p.2))=some vs->(∀p∈vs,p.2=t.get .any p.1)∧ ∀i∈l,∃p∈vs,p.1=i
 | [],xs,vs,h1,h2=>by
  cases h1;cases h2;exact ⟨fun p hp=>(by cases hp),fun i hi=>by cases hi⟩
 | i::r,xs,vs,h1,h2=>by
  simp only [th] at h1;split at h1
  ·rename_i e l he hl;cases h1;simp only [aaM,pG] at h2;split at h2
   ·rename_i v hv;split at h2
    ·rename_i vs' hvs';cases h2;obtain ⟨k1,k2⟩:=lh.args h hg hl hvs';rw [hg] at hv;refine ⟨fun p hp=> ?_,fun j hj=> ?_⟩
     ·rcases aaQ.1 hp with rfl | hp
      ·exact (h.res he hv).symm
      ·exact k1 p hp
     ·rcases aaQ.1 hj with rfl | hj
      ·exact ⟨_,aaR,rfl⟩
      ·obtain ⟨p,hp,hpi⟩:=k2 j hj;exact ⟨p,abO _ hp,hpi⟩
    ·cases h2
   ·cases h2
  ·cases h1
theorem lP {dr:Bool} (hk:dr=true-> ∀i,∀x∈dc (fo ops) i ops.toList 0 0,x∈kl): ∀(l:List Oper) (i:Nat) (σ:List (Nat×E)) (its:List It) (env:List (Option AV)) (bs:List ad) (t:Env) (env':List (Option AV)) (bs':List ad),
  mK c ops keep nt dr l i σ=some its->lh c keep nt env (seen base kl bs) σ t->bD c cf base kl its env bs=some (env',bs')-> ∃t',AX c cf ops dr base l i ⟨t,bs⟩=some ⟨t',bs'⟩∧lh c keep nt env' (seen base kl bs') [] t'
 | [],i,σ,its,env,bs,t,env',bs',hl,hr,hrun=>by
  simp only [mK,Option.some.injEq] at hl;subst hl;refine ⟨t,?_⟩;have hu:kf ([]:List (Nat×E)):=fun i e h=>by cases h
  unfold G1 at hrun;split at hrun
  ·rename_i hfl;simp only [bD,Option.some.injEq,Prod.mk.injEq] at hrun;obtain ⟨rfl,rfl⟩:=hrun;refine ⟨rfl,hr.len,hr.has,hu,fun i e v h=>(by cases h),fun i k v _ hk hv=> ?_⟩;exact hr.flush (vs:= []) (by rw [hfl];rfl) i k v hk hv
  ·simp only [bD] at hrun;split at hrun
   ·rename_i vs hvs;simp only [Option.some.injEq,Prod.mk.injEq] at hrun;obtain ⟨rfl,rfl⟩:=hrun;exact ⟨rfl,by rw [la];exact hr.len,hr.has,hu,fun i e v h=>(by cases h),fun i k v _ hk hv=>hr.flush hvs i k v hk hv⟩
   ·cases hrun
 | o::r,i,σ,its,env,bs,t,env',bs',hl,hr,hrun=>by
  simp only [mK] at hl;split at hl
  ·cases hl
  ·rename_i g hg;split at hl
   ·-- an expression
    rename_i e d hpe hdst;replace hpe:=CQ hpe;split at hl
    ·rename_i hdnt;split at hl
     ·rename_i its' hits
      have key:(bF c env (seen base kl bs) (wU g e)).isSome=true∧bD c cf base kl its' env bs=some (env',bs'):=by
       split at hl
       ·rename_i hcov;cases hl;refine ⟨?_,hrun⟩;unfold covered at hcov;rw [abq] at hcov;rcases hcov with hc | hc
        ·cases hw:wU g e <;> rw [hw] at hc <;> simp only [E.sure,aav] at hc;rfl
        ·rw [List.any_eq_true] at hc;obtain ⟨f,hf,hwf⟩:=hc;exact Fj hwf (tr hrun f hf)
       ·cases hl;simp only [bD,pG] at hrun;split at hrun
        ·rename_i vs hvs;split at hvs
         ·rename_i v hv;cases hvs;refine ⟨by unfold seen;rw [hv];rfl,?_⟩;simp only [dJ] at hrun;rw [List.set_eq_of_length_le (by rw [hr.len];exact Nat.le_refl _)] at hrun;exact hrun
         ·cases hvs
        ·cases hrun
      obtain ⟨hsome,hrun⟩:=key;obtain ⟨v,hv⟩:=abU.1 hsome
      have hstep:gU c cf ops dr base i o ⟨t,bs⟩=some ⟨aB t o.dst v,bs⟩:=by
       have pure: ∀(hgs: ∀x,bF c env (seen base kl bs) (fg g x)=bF c env (seen base kl bs) x) (hev:bF c env (seen base kl bs) e=some v) (cf:aF) (bs':List ad) (id:Nat),Sub (seen base kl bs) bs'->bj c cf o.op t bs' id=some (v,.none):=by intro hgs hev cf bs' id hs;refine wQ hs trivial ?_;rw [Kv];refine Nq (ρ:=fun x=>(AM keep σ x).map (fg g)) (fun x e v hx hv=> ?_) hpe hev id;simp only [abV] at hx;obtain ⟨e0,h0,rfl⟩:=hx;rw [hgs] at hv;exact hr.AM h0 hv
       cases g with
       | none=>exact xc (zd hg) (pure (fun _=>rfl) hv) (fun h=>hk h i) (fun h=>by subst h;exact C1 hr (g:=none) hpe (fun _=>rfl) hv (abj _ _▸hdnt:_∧_).2)
       | some q=>
        obtain ⟨x,w⟩:=q;simp only [wU,bF] at hv;rcases iN hv with ⟨h1,h2⟩ | ⟨h1,rfl⟩ | ⟨⟨l,h1⟩,rfl⟩
        ·refine xc ?_ (pure (fun y=>jx h1 y) h2) (fun h=>hk h i) (fun h=>by subst h;exact C1 hr (g:=some (x,w)) hpe (fun y=>jx h1 y) h2 (abj _ _▸hdnt:_∧_).2);rw [hr.want hg h1];simp [uG]
        ·refine xe ?_;rw [hr.want hg h1];cases w <;> rfl
        ·refine xe ?_;rw [hr.want hg h1];rfl
      rw [hdst] at hstep;have hd:t.has d=true:=hr.has d (by have h:=(abj _ _▸hdnt:_∧_).1;simpa using h)
      have hrel:lh c keep nt env (seen base kl bs) ((d,wU g e)::σ.filter fun p=>p.1 !=d) (t.set d v):=by
       refine ⟨hr.len,fun i hi=>by rw [Tr.fS];exact hr.has i hi,hr.uniq.cons _ _,fun j f u hj hu=> ?_,fun j k u hj hk hu=> ?_⟩
       ·simp only [dF] at hj;split at hj
        ·rename_i hjd;subst hjd;cases hj;rw [hv] at hu;cases hu;exact Tr.dU _ _ _ hd
        ·rename_i hjd;rw [Tr.bu _ _ _ (Ne.symm hjd)];exact hr.QY j f u (hr.uniq.look hj).1 hu
       ·simp only [dF] at hj;split at hj
        ·cases hj
        ·rename_i hjd;rw [Tr.bu _ _ _ (Ne.symm hjd)];refine hr.env j k u ?_ hk hu;cases hlj:dF σ j with
         | none=>rfl
         | some f=>obtain ⟨f',hf'⟩:=qC (σ:=σ.filter fun p=>p.1 !=d) (abP.2 ⟨lO hlj,by simpa using hjd⟩);rw [hj] at hf';cases hf'
      obtain ⟨t',h1,h2⟩:=lP hk r (i+1) _ _ env bs _ env' bs' hits hrel hrun;refine ⟨t',?_,h2⟩;simp only [AX,hstep];exact h1
     ·cases hl
    ·cases hl
   ·-- an operation
    split at hl
    ·cases hl
    ·rename_i g' hg';split at hl
     ·cases hl
     ·rename_i xs hxs;split at hl
      ·rename_i hdok;split at hl
       ·rename_i its' hits;simp only [Option.some.injEq] at hl;subst hl
        -- the variables are set
        obtain ⟨vs,hvs,hrun⟩: ∃vs,pG c env (seen base kl bs) (dK keep σ keep 0)=some vs∧bD c cf base kl (.dm (vB c ops dr i o.op) (bB ops.toList i 0) (CL keep o.dst) g' o.op (xs.map fun p=>(p.1,fg g' p.2))::its') (dJ env vs) bs=some (env',bs'):=by
         unfold G1 at hrun;split at hrun
         ·rename_i hfl;exact ⟨[],by rw [hfl];rfl,hrun⟩
         ·rw [bD] at hrun;split at hrun
          ·rename_i vs hvs;exact ⟨vs,hvs,hrun⟩
          ·cases hrun
        have hr1:=hr.Ns hvs;have hall:=hr.flush hvs
        -- what is behind the operation
        have after: ∀(v:AV) (bs2:List ad),gU c cf ops dr base i o ⟨t,bs⟩=some ⟨aB t o.dst v,bs2⟩->bD c cf base kl its' (wS (dJ env vs) (CL keep o.dst) v) bs2=some (env',bs')->
          ∃t',AX c cf ops dr base (o::r) i ⟨t,bs⟩=some ⟨t',bs'⟩∧lh c keep nt env' (seen base kl bs') [] t':=by
         intro v bs2 hstep hrun2
         have hrel:lh c keep nt (wS (dJ env vs) (CL keep o.dst) v) (seen base kl bs2) (Pr keep o.dst (za keep (dK keep σ keep 0) σ)) (aB t o.dst v):=by
          refine ⟨?_,Nt hr.has _ _,hr1.uniq.filter _,fun j f u hj hu=> ?_,fun j k u hj hk hu=> ?_⟩
          ·have:=hr1.len;cases CL keep o.dst with
           | none=>exact this
           | some p=>simp only [wS,List.length_set];exact this
          ·obtain ⟨h1,h2⟩:=hr1.uniq.look hj;simp only [abj,aax] at h2;rw [wY h2.1 (bs':=seen base kl bs)] at hu;cases hd:o.dst with
           | none=>rw [hd] at hu;exact hr1.QY j f u h1 hu
           | some d=>
            rw [hd] at hu h2;simp only [abj,bne_iff_ne] at h2;simp only [aB];rw [Tr.bu _ _ _ (Ne.symm h2.2.1)];refine hr1.QY j f u h1 ?_;simp only [CL] at hu;cases hp:posOf keep d with
            | none=>rw [hp] at hu;exact hu
            | some p=>rw [hp] at hu h2;simp only [wS] at hu;rw [AW (by simpa using h2.2.2)] at hu;exact hu
          ·cases hd:o.dst with
           | none=>rw [hd] at hu;exact hall j k u hk hu
           | some d=>
            rw [hd] at hu;have hdn:d<nt:=by have hdok0:=(abj _ _▸hdok:_∧_).1;have hdok1:=(abj _ _▸hdok0:_∧_).1;rw [hd] at hdok1;simpa [Ps] using hdok1
            simp only [aB];by_cases hjd:j=d
            ·subst hjd;simp only [CL,hk,wS] at hu;have hlt:k<(dJ env vs).length:=by rw [hr1.len];exact (ab8.1 (dn hk)).1
             simp [aaE,hlt] at hu;subst hu;exact Tr.dU _ _ _ (hr.has j hdn)
            ·rw [Tr.bu _ _ _ (Ne.symm hjd)];refine hall j k u hk ?_;simp only [CL] at hu;cases hp:posOf keep d with
             | none=>rw [hp] at hu;exact hu
             | some p=>rw [hp] at hu;simp only [wS] at hu;have:p≠k:=fun e=>hjd (tu hk (e▸hp));simp only [aaE] at hu⊢;rw [aaG this] at hu;exact hu
         obtain ⟨t',h1,h2⟩:=lP hk r (i+1) _ _ _ bs2 _ env' bs' hits hrel hrun2;refine ⟨t',?_,h2⟩;simp only [AX,hstep];exact h1
        simp only [bD] at hrun;split at hrun
        ·-- it is wanted
         rename_i hw
         have hwant:aW ops t o.guard=some true∧ ∀e,bF c (dJ env vs) (seen base kl bs) (fg g' e)=bF c (dJ env vs) (seen base kl bs) e:=by
          cases g' with
          | none=>exact ⟨zd hg',fun _=>rfl⟩
          | some q=>
           obtain ⟨x,w⟩:=q;simp only [uH] at hw;cases hx:bF c (dJ env vs) (seen base kl bs) x with
           | none=>rw [hx] at hw;cases hw
           | some u=>
            rw [hx] at hw;refine ⟨by rw [hr1.want hg' hx];exact hw,fun e=> ?_⟩;simp only [uG] at hw;split at hw
            ·rename_i b hb;cases hb;have:b=w:=by simpa using hw
             subst this;exact jx hx e
            ·cases hw
            ·cases hw
         split at hrun
         ·rename_i vs' hvs';obtain ⟨k1,k2⟩:=hr1.args hwant.2 hxs hvs'
          have hops: ∀x∈o.op.operands,Vy vs' x=ev t x:=by
           intro x hx;cases x with
           | tmp j=>refine iO (fun p hp hpj=>by rw [k1 p hp,hpj];rfl) (k2 j (aca _ ?_));exact abQ.2 ⟨.tmp j,by simpa using hx,rfl⟩
           | const u=>rfl
           | func f=>rfl
           | global g=>rfl
          have hdo: ∀(cf:aF) bs3 id,eb c cf o.op (Vy vs') bs3 id=bj c cf o.op t bs3 id:=fun cf bs3 id=>by rw [Kv];exact CX c cf hops bs3 id
          have hid:base+bB ops.toList i 0=bB ops.toList i base:=by rw [<-CZ];rfl
          split at hrun
          ·rename_i v bs2 heff;refine after v bs2 ?_ hrun;unfold Ia at heff;split at heff
           ·rename_i hm;rw [hdo,hid] at heff;unfold GZ at heff
            have hm':dr=true->alone ops i=true:=fun h=>by
             subst h;unfold vB at hm;split at hm
             ·cases hm
             ·rename_i ha;simpa using ha
            split at heff
            ·rename_i v' e hdoe;split at heff
             ·rename_i bs3 hon;cases heff;cases dr with
              | false=>simp only [gU,step1,hwant.1,hdoe,hon]
              | true=>simp only [gU,az,hwant.1,hm' rfl,hdoe,hon]
             ·cases heff
            ·cases heff
           ·rename_i ms hm;unfold vB at hm;split at hm
            ·rename_i ha;simp only [abj,aax] at ha;cases hm;simp only [List.tail_cons,List.headD_cons] at heff;rw [CP] at heff;rw [hdo,hid] at heff
             have hmask:bc ((dc (fo ops) i ops.toList 0 0).map (base+ ·)) bs=bo ops base i bs:=by unfold bo;rw [<-od];rfl
             rw [hmask] at heff;rw [ha.1]
             have hrt:cg c ops i o.op t=true:=by have h2:=(abj _ _▸hdok:_∧_).2;rw [ha.1] at h2;exact C0 hr1 (fun p hp=>G5 hwant.2 hxs hvs' p (aca _ (Nu hp))) hwant.2 h2
             unfold GY at heff;split at heff
             ·rename_i v' hdoe;cases heff;simp only [gU,az,hwant.1,ha.2,hdoe,hrt]
             ·rename_i v' x hdoe;split at heff
              ·rename_i hask;split at heff
               ·rename_i hdead;cases heff;simp only [gU,az,hwant.1,ha.2,hdoe,hask,hdead]
               ·cases heff
              ·cases heff
             ·rename_i v' kk ty cs hdoe;split at heff
              ·rename_i hcalm;cases heff;rw [abj] at hcalm;have hcond:(dr&& !alone ops i&&cA o.op)=true:=by rw [ha.1,ha.2,hcalm.1];rfl
               have hcond2:(dr&& !alone ops i&&(cA o.op || (eN o.op&&bg ops i o.op)))=true:=by rw [ha.1,ha.2,hcalm.1];rfl
               have hfit:bg ops i o.op=true:=by have hdok0:=(abj _ _▸hdok:_∧_).1;have h2:=(abj _ _▸hdok0:_∧_).2;unfold Pt at h2;rw [hcond] at h2;exact h2
               have hnear:mJ c ops dr i o.op=gS ops i:=by unfold mJ;rw [hcond2]
               have hall2:((gS ops i).all fun p=>fA kk (t.get .any p))=true:=by rw [abH];intro p hp;obtain ⟨q,hq,hqp⟩:=k2 p (acb _ (by rw [hnear];exact hp));have h3:=hcalm.2;unfold CI at h3;rw [abH] at h3;have h4:=h3 q hq;rw [k1 q hq,hqp,yW hfit hp,abE] at h4;exact h4
               simp only [gU,az,hwant.1,ha.2,hdoe,hfit,rj,hcalm.1,hrt,hall2,abB]
              ·cases heff
             ·rename_i v' kk sh sz es hdoe;split at heff
              ·rename_i hcalm;cases heff;rw [abj] at hcalm
               have hgr:(eN o.op&&bg ops i o.op)=true:=by have h1:=hcalm.1;rw [Ib] at h1;exact h1
               have hfit:bg ops i o.op=true:=(abj _ _▸hgr:_∧_).2;have hgrow:eN o.op=true:=(abj _ _▸hgr:_∧_).1;have hcond2:(dr&& !alone ops i&&(cA o.op || (eN o.op&&bg ops i o.op)))=true:=by rw [ha.1,ha.2,hgr];simp
               have hnear:mJ c ops dr i o.op=gS ops i:=by unfold mJ;rw [hcond2]
               have hall2:((gS ops i).all fun p=>fA kk (t.get .any p))=true:=by rw [abH];intro p hp;obtain ⟨q,hq,hqp⟩:=k2 p (acb _ (by rw [hnear];exact hp));have h3:=hcalm.2;unfold CI at h3;rw [abH] at h3;have h4:=h3 q hq;rw [k1 q hq,hqp,yW hfit hp,abE] at h4;exact h4
               simp only [gU,az,hwant.1,ha.2,hdoe,hfit,rj,hgrow,hrt,hall2,abB]
              ·cases heff
             ·rename_i v' bx hdoe;split at heff
              ·rename_i hcalm;cases heff;rw [abj,CP] at hcalm;have hap:=hcalm.1
               have hcv:cB o.op=true:=by have h1:=hap;simp only [aV,abj] at h1;exact wO h1.1.1
               obtain ⟨hns,hng⟩:=tj hcv
               have hnear:mJ c ops dr i o.op=eI ops i:=by unfold mJ;rw [hns,hng,ha.1,ha.2,fL hap];rfl
               have hall2:((eI ops i).all fun p=>nT bs.length (t.get .any p))=true:=by rw [abH];intro p hp;obtain ⟨q,hq,hqp⟩:=k2 p (acb _ (by rw [hnear];exact hp));have h3:=hcalm.2;rw [abH] at h3;have h4:=h3 q hq;rw [k1 q hq,hqp] at h4;exact h4
               rw [hap] at hdoe;simp only [gU,az,hwant.1,ha.2,hap,hdoe,hall2,abB]
              ·cases heff
             ·rename_i v' kk hdoe;split at heff
              ·rename_i hcalm;cases heff;rw [abj] at hcalm;obtain ⟨hap,hea⟩:=Kq hcalm.1;have hea2:=hea;simp only [fB,abj] at hea2
               have hcv:cB o.op=true:=by
                cases hc:cB o.op with
                | true=>rfl
                | false=>have h1:=hea2.1.1;rw [AG hc] at h1;cases h1
               obtain ⟨hns,hng⟩:=tj hcv
               have hnear:mJ c ops dr i o.op=eI ops i:=by unfold mJ;rw [hns,hng,ha.1,ha.2,eK hea];rfl
               have hall2:((eI ops i).all fun p=>rB kk (t.get .any p))=true:=by rw [abH];intro p hp;obtain ⟨q,hq,hqp⟩:=k2 p (acb _ (by rw [hnear];exact hp));have h3:=hcalm.2;rw [abH] at h3;have h4:=h3 q hq;have h5:=hea2.2;rw [abH] at h5;have h6:=(abj _ _▸h5 p hp:_∧_).2;rw [aax] at h6;rw [k1 q hq,hqp,h6,abE] at h4;exact h4
               simp only [gU,az,hwant.1,ha.2,hdoe,hea,hall2,abB]
              ·cases heff
             ·cases heff
            ·cases hm
          ·cases hrun
         ·cases hrun
        ·-- it is not
         rename_i hw;refine after (.aL []) bs (xe ?_) hrun;cases g' with
         | none=>simp [uH] at hw
         | some q=>
          obtain ⟨x,w⟩:=q;simp only [uH] at hw;cases hx:bF c (dJ env vs) (seen base kl bs) x with
          | none=>rw [hx] at hw;cases hw
          | some u=>rw [hx] at hw;rw [hr1.want hg' hx];exact hw
        ·cases hrun
       ·cases hl
      ·cases hl
end
end Go.Am
