/-
 More fuel turns nothing: what the abstract machine has answered it answers with more fuel.
-/
import Derived.Test.YtfnkchadeaedlaaGreatDoorAmExec
set_option linter.all false
namespace Go.Am
def Gt (f g:aG):Prop:= ∀a b c r,f a b c=some r→g a b c=some r
section
variable {c:ax} {f g:aG}
theorem HQ (h:Gt f g) {fn:FuncId} {args:List AV} {bs:List ab} {r:AV×cQ} (hr:pH c f fn args bs=some r):pH c g fn args bs=some r:=by
 unfold pH at hr⊢;split at hr
 ·split at hr
  ·rename_i hf;rw [h _ _ _ _ hf];exact hr
  ·cases hr
 unfold wG at hr⊢;split at hr
 ·split at hr
  ·split at hr
   ·exact hr
   ·split at hr
    ·rename_i hf;rw [h _ _ _ _ hf];exact hr
    ·rename_i hf;rw [h _ _ _ _ hf];simp only;split at hr
     ·exact hr
     ·split at hr
      ·rename_i hf2;rw [h _ _ _ _ hf2];exact hr
      ·cases hr
    ·cases hr
  ·split at hr
   ·rename_i hf;rw [h _ _ _ _ hf];exact hr
   ·cases hr
 ·cases hr
theorem Hs (h:Gt f g) {fn:FuncId} {args:List AV} {bs:List ab} {r:AV×cQ} (hr:oc c f fn args bs=some r):oc c g fn args bs=some r:=by
 unfold oc at hr⊢;split at hr
 ·exact hr
 ·exact HQ h hr
end
end Go.Am
