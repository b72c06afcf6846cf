/-
 More fuel turns nothing: what the abstract machine has answered it answers with more fuel.
-/
import Derived.Test.YtfnkchadeaedlaaGreatDoorAmExec
set_option linter.all false
namespace Go.Am
def Ha (f g:aL):Prop:= ∀a b c r,f a b c=some r→g a b c=some r
section
variable {c:ax} {f g:aL}
theorem IE (h:Ha f g) {fn:FuncId} {args:List AV} {bs:List ad} {r:AV×cY} (hr:pT c f fn args bs=some r):pT c g fn args bs=some r:=by
 unfold pT at hr⊢;split at hr
 ·split at hr
  ·rename_i hf;rw [h _ _ _ _ hf];exact hr
  ·cases hr
 unfold xi at hr⊢;split at hr
 ·split at hr
  ·split at hr
   ·exact hr
   ·split at hr
    ·rename_i hf;rw [h _ _ _ _ hf];exact hr
    ·rename_i hf;rw [h _ _ _ _ hf];simp only;split at hr
     ·exact hr
     ·split at hr
      ·rename_i hf2;rw [h _ _ _ _ hf2];exact hr
      ·cases hr
    ·cases hr
  ·split at hr
   ·rename_i hf;rw [h _ _ _ _ hf];exact hr
   ·cases hr
 ·cases hr
theorem Ic (h:Ha f g) {fn:FuncId} {args:List AV} {bs:List ad} {r:AV×cY} (hr:ou c f fn args bs=some r):ou c g fn args bs=some r:=by
 unfold ou at hr⊢;split at hr
 ·exact hr
 ·exact IE h hr
end
end Go.Am
