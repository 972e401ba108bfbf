/-
  The walk of ref12.Make, case by case (printed by wip/mk_make2.py).
-/
import Derived.Test.YtiacdpoldgfpbaaPViewA
import Derived.BigRegion
import Derived.IntWalk
namespace Go.Proofs.Ytiacdpoldgfpbaa
set_option linter.unusedSimpArgs false
set_option linter.unusedVariables false
set_option maxHeartbeats 600000
open Go.RowKit


end Go.Proofs.Ytiacdpoldgfpbaa

/-
  The walk of ref13.Make, case by case (printed by wip/mk_make2.py).
-/
namespace Go.Proofs.Ytiacdpoldgfpbaa
set_option linter.unusedSimpArgs false
set_option linter.unusedVariables false
set_option maxHeartbeats 600000
open Go.RowKit


end Go.Proofs.Ytiacdpoldgfpbaa

/-
  The walk of ref14.Make, case by case (printed by wip/mk_make2.py).
-/
namespace Go.Proofs.Ytiacdpoldgfpbaa
set_option linter.unusedSimpArgs false
set_option linter.unusedVariables false
set_option maxHeartbeats 600000
open Go.RowKit


end Go.Proofs.Ytiacdpoldgfpbaa

/-
  The walk of ref15.Make, case by case (printed by wip/mk_make2.py).
-/
namespace Go.Proofs.Ytiacdpoldgfpbaa
set_option linter.unusedSimpArgs false
set_option linter.unusedVariables false
set_option maxHeartbeats 600000
open Go.RowKit


end Go.Proofs.Ytiacdpoldgfpbaa
