/-
 The law DependSections.
-/
import Derived.Test.YtfnkchadeaedlaaGreatDoorLsM
import Derived.Test.YtfnkchadeaedlaaGreatDoorRdM
set_option linter.all false
namespace Go.Proofs.YtfnkchadeaedlaaGreatDoor
open Go.Am
set_option maxRecDepth 10000
set_option maxHeartbeats 8000000
def Ob (o:Option tf):AV:=match o with | some s=>cN s | none=>y8
theorem BV (o:Option tf) (h: ∀s,o=some s→s.nodes.length<1000000):ar cfg 20 [Ob o,Ob o] []=some (.bool true, []):=by
 cases o with
 | none=>have:=vN ⟨0, [], []⟩ ⟨0, [], []⟩ (some true) (some true) 0 0 (fun h=>absurd rfl h) (fun h=>absurd rfl h) (by simp) (by simp);rw [decide_eq_true rfl] at this;exact this
 | some s=>have:=vN s s none none 3 3 (fun _=>rfl) (fun _=>rfl) (h s rfl) (h s rfl);rw [decide_eq_true rfl] at this;exact this
theorem iK (l:List Nd):ai (l.map gO)=true:=eK (fun _=>rfl) l
end Go.Proofs.YtfnkchadeaedlaaGreatDoor
