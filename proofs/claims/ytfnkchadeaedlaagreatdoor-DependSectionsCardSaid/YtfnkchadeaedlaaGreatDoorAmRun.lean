/-
 More fuel turns nothing: what the abstract machine has answered it answers with more fuel.
-/
import Derived.Test.YtfnkchadeaedlaaGreatDoorAmExec
set_option linter.all false
namespace Go.Am
def Ft (f g:aG):Prop:= ∀a b c r,f a b c=some r→g a b c=some r
section
variable {c:ax} {f g:aG}
theorem G0 (h:Ft f g) {fn:FuncId} {args:List AV} {bs:List ad} {r:AV×cJ} (hr:o7 c f fn args bs=some r):o7 c g fn args bs=some r:=by
 unfold o7 at hr⊢;split at hr
 ·split at hr
  ·rename_i hf;rw [h _ _ _ _ hf];exact hr
  ·cases hr
 unfold wa at hr⊢;split at hr
 ·split at hr
  ·split at hr
   ·exact hr
   ·split at hr
    ·rename_i hf;rw [h _ _ _ _ hf];exact hr
    ·rename_i hf;rw [h _ _ _ _ hf];simp only;split at hr
     ·exact hr
     ·split at hr
      ·rename_i hf2;rw [h _ _ _ _ hf2];exact hr
      ·cases hr
    ·cases hr
  ·split at hr
   ·rename_i hf;rw [h _ _ _ _ hf];exact hr
   ·cases hr
 ·cases hr
theorem GA (h:Ft f g) {fn:FuncId} {args:List AV} {bs:List ad} {r:AV×cJ} (hr:nD c f fn args bs=some r):nD c g fn args bs=some r:=by
 unfold nD at hr⊢;split at hr
 ·exact hr
 ·exact G0 h hr
end
end Go.Am
