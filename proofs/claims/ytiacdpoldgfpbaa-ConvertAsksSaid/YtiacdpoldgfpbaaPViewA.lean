/-
  What the walks of View lean on.
-/
import Derived.Test.YtiacdpoldgfpbaaPSFindA
import Derived.RegionTactic
namespace Go.Proofs.Ytiacdpoldgfpbaa
set_option linter.unusedSimpArgs false
set_option linter.unusedVariables false
set_option maxHeartbeats 600000
open Go.RowKit

theorem Keeps.frz {w w' : World} (h : Keeps w w') {a : Addr} (hl : a.block < w.heap.size) (hc : w.frozen? a = false) : w'.frozen? a = false := (Below.frozen h hl).trans hc

end Go.Proofs.Ytiacdpoldgfpbaa

namespace Go.Proofs.Ytiacdpoldgfpbaa
set_option linter.unusedSimpArgs false
set_option linter.unusedVariables false
set_option maxHeartbeats 600000
open Go.RowKit

theorem eql_same (x y : Edge) (h : x = y) (W : World) : (binOp .eql 24 (.agg #[.int .u8 x.tag, .int .u32 x.to]) (.agg #[.int .u8 y.tag, .int .u32 y.to])).run Try.prog W = .ok (.bool true) W := by rw [run_eql_edge]; simp [h]

theorem eql_other (x y : Edge) (h : x ≠ y) (W : World) : (binOp .eql 24 (.agg #[.int .u8 x.tag, .int .u32 x.to]) (.agg #[.int .u8 y.tag, .int .u32 y.to])).run Try.prog W = .ok (.bool false) W := by rw [run_eql_edge]; simp [h]

end Go.Proofs.Ytiacdpoldgfpbaa
