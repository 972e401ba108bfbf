/-
  The walks of tbdd.Make and ramageref16.Make (printed by wip/mk_make.py).
-/
import Derived.Test.YtimffidpbcflaaaTMake
namespace Go.Proofs.Ytimffidpbcflaaa
set_option linter.unusedSimpArgs false
set_option linter.unusedVariables false
set_option maxHeartbeats 600000
open Go.RowKit

end Go.Proofs.Ytimffidpbcflaaa
