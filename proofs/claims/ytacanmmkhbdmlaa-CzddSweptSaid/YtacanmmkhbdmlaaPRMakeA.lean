/-
  The walk of ref15.Make, case by case (printed by wip/mk_make2.py).
-/
import Derived.Test.YtacanmmkhbdmlaaPViewA
import Derived.BigRegion
import Derived.IntWalk
namespace Go.Proofs.Ytacanmmkhbdmlaa
set_option linter.unusedSimpArgs false
set_option linter.unusedVariables false
set_option maxHeartbeats 600000
open Go.RowKit


end Go.Proofs.Ytacanmmkhbdmlaa
