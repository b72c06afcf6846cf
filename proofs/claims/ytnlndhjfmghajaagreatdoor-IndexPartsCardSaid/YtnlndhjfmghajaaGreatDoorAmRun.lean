/- More fuel turns nothing: -/
import Derived.Test.YtnlndhjfmghajaaGreatDoorAmExec
set_option linter.all false
namespace Go.Am
def OLe {α β:Type} (f g:α→Option β):Prop:= ∀x r,f x=some r→g x=some r
def CLe (f g:CallF):Prop:= ∀a b c r,f a b c=some r→g a b c=some r
section
variable {c:Cfg} {f g:CallF}
theorem callP_le (h:CLe f g) {fn:FuncId} {args:List AV} {bs:List Box} {r:AV×Eff} (hr:callP c f fn args bs=some r):callP c g fn args bs=some r:=by
 unfold callP at hr⊢
 split at hr
 ·split at hr
  ·exact hr
  ·split at hr
   ·rename_i hf;rw [h _ _ _ _ hf];exact hr
   ·cases hr
 unfold callL at hr⊢
 split at hr
 ·split at hr
  ·split at hr
   ·exact hr
   ·split at hr
    ·rename_i hf;rw [h _ _ _ _ hf];exact hr
    ·rename_i hf
     rw [h _ _ _ _ hf]
     simp only
     split at hr
     ·exact hr
     ·split at hr
      ·rename_i hf2;rw [h _ _ _ _ hf2];exact hr
      ·cases hr
    ·cases hr
  ·split at hr
   ·rename_i hf;rw [h _ _ _ _ hf];exact hr
   ·cases hr
 ·cases hr
theorem callA_le (h:CLe f g) {fn:FuncId} {args:List AV} {bs:List Box} {r:AV×Eff} (hr:callA c f fn args bs=some r):callA c g fn args bs=some r:=by
 unfold callA at hr⊢
 split at hr
 ·exact hr
 ·exact callP_le h hr
end
end Go.Am
