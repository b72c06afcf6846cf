/- The example of the chapter, run by the kernel. -/
import Derived.Test.YtnlndhjfmghajaaGreatDoorIxEv
set_option linter.all false
namespace Go.Proofs.YtnlndhjfmghajaaGreatDoor
open Go.Am
set_option maxRecDepth 100000
set_option maxHeartbeats 4000000
theorem awake:ansF cfg 11 [] []=some (.bool true, []):=ans_of_run (n:=1000) evT_ok (by kernel_rfl)
end Go.Proofs.YtnlndhjfmghajaaGreatDoor
