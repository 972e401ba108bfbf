/-
  The walk of ref14.View, case by case (printed by wip/mk_view.py).
-/
import Derived.Test.YtiacdpoldgfpbaaPViewA
import Derived.BigRegion
namespace Go.Proofs.Ytiacdpoldgfpbaa
set_option linter.unusedSimpArgs false
set_option linter.unusedVariables false
set_option maxHeartbeats 600000
open Go.RowKit


end Go.Proofs.Ytiacdpoldgfpbaa
