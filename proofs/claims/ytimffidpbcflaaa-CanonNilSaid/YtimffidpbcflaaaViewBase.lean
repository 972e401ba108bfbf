/-
  What the walks of View lean on.
-/
import Derived.Test.YtimffidpbcflaaaSFind
namespace Go.Proofs.Ytimffidpbcflaaa
set_option linter.unusedSimpArgs false
set_option linter.unusedVariables false
set_option maxHeartbeats 600000
open Go.RowKit


theorem Keeps.frz {w w' : World} (h : Keeps w w') {a : Addr} (hl : a.block < w.heap.size) (hc : w.frozen? a = false) : w'.frozen? a = false := (Below.frozen h hl).trans hc

end Go.Proofs.Ytimffidpbcflaaa
