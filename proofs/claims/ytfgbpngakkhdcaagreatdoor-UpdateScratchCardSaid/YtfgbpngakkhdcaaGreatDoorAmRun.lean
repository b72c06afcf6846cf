/- More fuel turns nothing: -/
import Derived.Test.YtfgbpngakkhdcaaGreatDoorAmExec
set_option linter.all false
namespace Go.Am
def Jt (f g:aF):Prop:= ∀a b c r,f a b c=some r->g a b c=some r
section
variable {c:av} {f g:aF}
theorem K4 (h:Jt f g) {fn:FuncId} {args:List AV} {bs:List ad} {r:AV×c9} (hr:ni c f fn args bs=some r):ni c g fn args bs=some r:=by
 unfold ni at hr⊢;split at hr
 ·split at hr
  ·exact hr
  ·split at hr
   ·rename_i hf;rw [h _ _ _ _ hf];exact hr
   ·cases hr
 unfold uv at hr⊢;split at hr
 ·split at hr
  ·split at hr
   ·exact hr
   ·split at hr
    ·rename_i hf;rw [h _ _ _ _ hf];exact hr
    ·rename_i hf;rw [h _ _ _ _ hf];simp only;split at hr
     ·exact hr
     ·split at hr
      ·rename_i hf2;rw [h _ _ _ _ hf2];exact hr
      ·cases hr
    ·cases hr
  ·split at hr
   ·rename_i hf;rw [h _ _ _ _ hf];exact hr
   ·cases hr
 ·cases hr
theorem Kz (h:Jt f g) {fn:FuncId} {args:List AV} {bs:List ad} {r:AV×c9} (hr:nj c f fn args bs=some r):nj c g fn args bs=some r:=by
 unfold nj at hr⊢;split at hr
 ·exact hr
 ·exact K4 h hr
end
end Go.Am
