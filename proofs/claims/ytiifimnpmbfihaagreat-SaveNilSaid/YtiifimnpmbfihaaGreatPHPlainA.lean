/-
  Plainly: what Make makes of two right edges is right, and View of it tells the two again: any form with chains or tags.
-/
import Derived.Test.YtiifimnpmbfihaaGreatPRightA
namespace Go.Proofs.YtiifimnpmbfihaaGreat
set_option linter.unusedSimpArgs false
set_option linter.unusedVariables false
set_option maxHeartbeats 600000

theorem look_low {cs:List (Option Rec)} {id:Int} (h:id < 2):look cs id=none:=by unfold look;rw [if_pos h]

end Go.Proofs.YtiifimnpmbfihaaGreat
