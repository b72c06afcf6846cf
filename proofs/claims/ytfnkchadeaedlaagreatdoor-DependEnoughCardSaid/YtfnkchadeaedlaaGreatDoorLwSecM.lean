/-
 The law DependSections.
-/
import Derived.Test.YtfnkchadeaedlaaGreatDoorLsM
import Derived.Test.YtfnkchadeaedlaaGreatDoorRdM
set_option linter.all false
namespace Go.Proofs.YtfnkchadeaedlaaGreatDoor
open Go.Am
set_option maxRecDepth 10000
set_option maxHeartbeats 8000000
def secV (o:Option Sec):AV:=match o with | some s=>secA s | none=>sec0
theorem ansSameV (o:Option Sec) (h: ∀s,o=some s→s.nodes.length<1000000):ansF cfg 20 [secV o,secV o] []=some (.bool true, []):=by
 cases o with
 | none=>
  have:=ansSameSec ⟨0, [], []⟩ ⟨0, [], []⟩ (some true) (some true) 0 0 (fun h=>absurd rfl h) (fun h=>absurd rfl h) (by simp) (by simp)
  rw [decide_eq_true rfl] at this
  exact this
 | some s=>
  have:=ansSameSec s s none none 3 3 (fun _=>rfl) (fun _=>rfl) (h s rfl) (h s rfl)
  rw [decide_eq_true rfl] at this
  exact this
theorem plain_ndA (l:List Nd):plainAll (l.map ndA)=true:=plainAll_map (fun _=>rfl) l
end Go.Proofs.YtfnkchadeaedlaaGreatDoor
