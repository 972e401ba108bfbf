/-
  What the walks of Make lean on.
-/
import Derived.Test.YtimffidpbcflaaaViewBase
import Derived.Test.YtimffidpbcflaaaRecEq
import Derived.Test.YtimffidpbcflaaaQuietK
import Derived.Test.YtimffidpbcflaaaHeadRule
namespace Go.Proofs.Ytimffidpbcflaaa
set_option linter.unusedSimpArgs false
set_option linter.unusedVariables false
set_option maxHeartbeats 600000
open Go.RowKit

theorem eql_same (x y : Edge) (h : x = y) (W : World) : (binOp .eql 25 (.agg #[.int .u8 x.tag, .int .u32 x.to]) (.agg #[.int .u8 y.tag, .int .u32 y.to])).run Try.prog W = .ok (.bool true) W := by rw [run_eql_edge]; simp [h]

theorem eql_other (x y : Edge) (h : x ≠ y) (W : World) : (binOp .eql 25 (.agg #[.int .u8 x.tag, .int .u32 x.to]) (.agg #[.int .u8 y.tag, .int .u32 y.to])).run Try.prog W = .ok (.bool false) W := by rw [run_eql_edge]; simp [h]

end Go.Proofs.Ytimffidpbcflaaa
